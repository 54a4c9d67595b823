import Derived.Test.YtfechgagcgbldaaDoorWC
import Derived.Maps.RangeRun
import Derived.WideKeyEntry
/-
 Lemmas of the claim. No condition but those that each names.
-/
set_option linter.unusedSimpArgs false
set_option linter.unusedVariables false
set_option maxRecDepth 100000
set_option maxHeartbeats 8000000
set_option linter.unusedSectionVars false
namespace Go.Proofs.YtfechgagcgbldaaDoor
open _root_.Go.Proofs.Tryd
section
open Abs Facts Tr
attribute [local irreducible] awp
def encC (c : Int × ByteArray) : D := .agg [.int .i64 c.1, .str c.2]
def zx8 (l : List (Int × ByteArray)) : List (D × D) := l.map fun c => (encC c, .bool true)
def setI (l : List Idv) : List (D × D) := l.map fun c => (z3a c, .bool true)
theorem eqK_C (a b : Int × ByteArray) : eqK prog 115 (encC a) (encC b) = some (decide (a = b)) := by
 have h : ∀ c, z5c prog 115 (encC c) = true := fun c => by simp only [encC, z5c, zvy, zzb]; rfl
 unfold eqK
 rw [if_pos ⟨h a, h b⟩]
 refine (eqU115 a.1 b.1 a.2 b.2).trans ?_
 obtain ⟨a1, a2⟩ := a; obtain ⟨b1, b2⟩ := b
 simp [Prod.mk.injEq]
theorem zk0 (a b : Idv) : eqK prog 23 (z3a a) (z3a b) = some (decide (a = b)) := by
 have h : ∀ c, z5c prog 23 (z3a c) = true := fun c => by simp only [z3a, cellsId, z5c, z6p, z8y]; rfl
 unfold eqK
 rw [if_pos ⟨h a, h b⟩]
 refine (eqU23 a.act b.act a.item b.item a.n b.n).trans ?_
 rw [idEq']
theorem z001 (c : Int × ByteArray) (l : List (Int × ByteArray)) : (c ∈ l -> ∃ n, z2a prog 115 (.agg [.int .i64 c.1, .str c.2]) (zx8 l) = some (some (n, .bool true))) /\ (c ∉ l -> z2a prog 115 (.agg [.int .i64 c.1, .str c.2]) (zx8 l) = some none) := by
 haveI : DecidableEq (Int × ByteArray) := fun a b => decidable_of_iff (a.1 = b.1 /\ a.2 = b.2) ⟨fun h => Prod.ext h.1 h.2, fun h => by subst h; exact ⟨rfl, rfl⟩⟩
 have h := z5r encC (fun a b => (eqK_C a b).trans (by congr 1; exact decide_eq_decide.2 Iff.rfl)) (fun _ => .bool true) c l
 refine ⟨fun hm => ?_, fun hm => ?_⟩
 ·rw [if_pos hm] at h; exact ⟨_, h⟩
 ·rw [if_neg hm] at h; exact h
theorem zct (c : Idv) (l : List Idv) : z2a prog 23 (.agg [.int .i64 c.act, .int .i64 c.item, .int .i64 c.n]) (setI l) = some (if c ∈ l then some (l.idxOf c, .bool true) else none) := z5r z3a zk0 (fun _ => .bool true) c l
theorem zsz (l : List (Int × ByteArray)) (c : Int × ByteArray) : zx8 l ++ [(.agg [.int .i64 c.1, .str c.2], .bool true)] = zx8 (l ++ [c]) := by unfold zx8; rw [List.map_append]; rfl
theorem zak (l : List Idv) (c : Idv) : setI l ++ [(.agg [.int .i64 c.act, .int .i64 c.item, .int .i64 c.n], .bool true)] = setI (l ++ [c]) := by unfold setI; rw [List.map_append]; rfl
theorem zgq {l : List Idv} {c : Idv} (hn : l.Nodup) (h : c ∈ l) : z3h (setI l) (l.idxOf c) (.bool true) = setI l := by
 unfold setI
 rw [z39 z3a (fun _ => .bool true) c (.bool true) l hn h]
 refine List.map_congr_left fun a _ => ?_
 simp
namespace Tr
theorem zal : ∀ t : T, szB t = true -> ∀ x ∈ nodesT t, szB x = true := by
 refine z53 fun t ih h x hx => ?_
 rw [z15] at hx
 rcases List.mem_cons.1 hx with rfl | hx
 ·exact h
 ·obtain ⟨k, O, hx⟩ := List.mem_flatMap.1 hx
  obtain ⟨_, _, _, _, _, _, h4⟩ := (z3o t).1 h
  exact ih k O (h4 k O) x hx
theorem zx9 {l : List Idv} (hne : l ≠ []) : (l.all fun i => decide (i = Idv.zero)) = (decide (Idv.zero ∈ z19 l) && decide ((z19 l).length = 1)) := by
 obtain ⟨h1, h2, _, _⟩ := z25 l
 rw [Bool.eq_iff_iff]
 simp only [List.all_eq_true, Bool.and_eq_true, decide_eq_true_eq]
 constructor
 ·intro h
  obtain ⟨x, hx⟩ := List.exists_mem_of_ne_nil l hne
  have hz : Idv.zero ∈ z19 l := by rw [<- h x hx]; exact (h2 x).2 hx
  refine ⟨hz, ?_⟩
  have ha : ∀ y ∈ z19 l, y = Idv.zero := fun y hy => h y ((h2 y).1 hy)
  generalize z19 l = o at h1 hz ha
  match o, h1, hz, ha with
  | [], _, hz, _ => cases hz
  | [a], _, _, _ => rfl
  | a :: b :: r, h1, _, ha =>
   have e1 := ha a (by simp)
   have e2 := ha b (by simp)
   rw [e1, e2] at h1
   simp at h1
 ·rintro ⟨hz, hl⟩ x hx
  have hm := (h2 x).2 hx
  generalize z19 l = o at hz hl hm
  match o, hl, hz, hm with
  | [a], _, hz, hm =>
   rw [List.mem_singleton] at hz hm
   rw [hm, <- hz]
theorem zt0 {p q : Prop} [Decidable p] [Decidable q] : (decide p == decide q) = decide (q ↔ p) := by
 by_cases hp : p <;> by_cases hq : q <;> simp [hp, hq]
def ownB (t : T) : Bool := (if t.kind = 0 then decide (t.label = z76) && decide (t.head.length + t.words.length = 0) else decide (zmq t.kind ≠ z76) && (z87 t.label && (zog t.head && zog t.words)))
def zes (t : T) : Bool := ownB t && ((t.kids.all fun k => z4z t.kind k.kind) && (decide ((t.kids.map ze6).Nodup) && decide (t.kids.length <= 64)))
end Tr
theorem zxa (t : T) (hs : szB t = true) : PC prog 53 [z1o t] (.bool (zes t)) := by
  obtain ⟨h0, h1, g1, h2, g2, h3, h4⟩ := (z3o t).1 hs
  have k1 := zmr t.kind
  have k2 := zi9 t.label (by unfold maxLen; omega)
  have k3 := zud t.head h1 (fun w hw => by have := g1 w hw; unfold maxLen; omega)
  have k4 := zud t.words h2 (fun w hw => by have := g2 w hw; unfold maxLen; omega)
  refine z3q 1 (by simp only [pureD.pureL, z0h, Bool.and_self]) rfl (z30 [] func53 rfl (by decide +kernel) rfl ?_)
  show awp _ _ (Code.seq _ _) _ _
  repeat' (first | refine nxt ?_ | ((first | refine zqh fun K hK => ?_ | refine zqs (k1) ?_ | refine zqs (k2) ?_ | refine zqs (k3) ?_ | refine zqs (k4) ?_); (simp (disch := omega) only [go_sem, Nat.reduceBEq, ↓reduceIte, reduceCtorEq, Nat.reduceAdd, z0l])) | (refine zqd _ rfl ?_ ?_ <;> intro hc <;> (first | (cases hc; done) | ((try simp only [z06] at hc); (try omega)))) | refine zqu (by simp only [go_sem]; rfl) rfl ?_ | (refine hK _ ?_; clear hK K) | (refine zqf (fun hb => ?_) (fun hb => ?_) <;> (have hb2 := hb; try simp only [z06] at hb2) <;> ((first | have F : (_ : Bool) = _ := hb2 | have F := eq_false hb2 | have F := eq_true hb2); (simp (disch := omega) only [go_sem, Nat.reduceBEq, ↓reduceIte, reduceCtorEq, Nat.reduceAdd, F, z2g]); clear hb F; (try omega))))
  all_goals first
    | (refine z05 ?_
       unfold zes ownB
       have hemp : ByteArray.empty = z76 := rfl
       first
         | ((simp (disch := omega) only [decide_eq_false, Bool.false_and, Bool.and_false, if_true, if_false, *]); done)
         | (simp_all [z76]; done)
         | (simp_all [z76]; omega))
    | skip
  all_goals
    have hown : ownB t = true := by
      unfold ownB
      first
        | (simp_all [z76]; done)
        | (have e1 : t.head = [] := List.eq_nil_of_length_eq_zero (by omega)
           have e2 : t.words = [] := List.eq_nil_of_length_eq_zero (by omega)
           simp_all [z76])
    unfold zes
    rw [hown, Bool.true_and]
    (refine z6x (fun U st => ∃ (i : _), U = t.kids.length - i /\ st.t 1 = .ptr 0 0 /\ st.t 3 = .mp 1 /\ st.t 47 = z0l t.kids /\ st.t 48 = .int .i64 t.kids.length /\ st.t 49 = .int .i64 i /\ st.H 0 = some (.box 27 (z04 t)) /\ st.H 1 = some (.map (zx8 ((t.kids.take i).map ze6))) /\ (i <= t.kids.length) /\ (2 <= st.nx) /\ ((t.kids.take i).all (fun k => z4z t.kind k.kind) = true) /\ (((t.kids.take i).map ze6).Nodup)) ?_ ?_); rotate_left; (rintro U st ⟨i, rfl, q1, q3, q47, q48, q49, qH0, qH1, qp0, qp1, qp2, qp3⟩); rotate_left
    · (refine ⟨_, 0, rfl, ?_⟩); (simp (disch := omega) only [go_sem, Nat.reduceBEq, Nat.reduceLeDiff, true_and, Int.natCast_zero, List.map_nil, z0l, zx8])
      try simp
    by_cases hi : i < t.kids.length
    · have hcc := zil t.kind t.kids[i].kind
      by_cases hm : ze6 t.kids[i] ∈ (t.kids.take i).map ze6
      · obtain ⟨n, hfd⟩ := (z001 (ze6 t.kids[i]) ((t.kids.take i).map ze6)).1 hm
        have hno : ¬ (t.kids.map ze6).Nodup := fun hn => by
          obtain ⟨x, hx, he⟩ := List.mem_map.1 hm
          obtain ⟨j, hj, rfl⟩ := List.getElem_of_mem hx
          rw [List.length_take] at hj
          rw [List.getElem_take] at he
          exact zyr (f := ze6) (j := j) (k := i) (by omega) hi he hn
        simp only [ze6] at hfd
        repeat' (first | refine nxt ?_ | ((first | refine zqh fun K hK => ?_ | refine zqs (hcc) ?_); (simp (disch := omega) only [go_sem, Nat.reduceBEq, ↓reduceIte, reduceCtorEq, Nat.reduceAdd, Nat.reduceLeDiff, q1, q47, q48, q49, qH0, z0l])) | (refine zqd _ rfl ?_ ?_ <;> intro hc <;> (first | (cases hc; done) | ((try simp only [z06] at hc); (try omega)))) | refine zqu (by simp only [go_sem]; rfl) rfl ?_ | (refine hK _ ?_; clear hK K) | (refine zqf (fun hb => ?_) (fun hb => ?_) <;> (have hb2 := hb; try simp only [z06] at hb2) <;> ((have F : (_ : Bool) = _ := hb2); (simp (disch := omega) only [go_sem, Nat.reduceBEq, ↓reduceIte, Nat.reduceAdd, Nat.reduceLeDiff, F, q3, qH1, hfd]); clear hb F; (try omega))))
        all_goals exact z05 (by rw [decide_eq_false hno, Bool.false_and, Bool.and_false])
      · have hfd := (z001 (ze6 t.kids[i]) ((t.kids.take i).map ze6)).2 hm
        have hsn : zx8 ((t.kids.take i).map ze6) ++ [(.agg [.int .i64 t.kids[i].kind, .str t.kids[i].label], .bool true)] = zx8 ((t.kids.take i).map ze6 ++ [ze6 t.kids[i]]) := zsz ((t.kids.take i).map ze6) (ze6 t.kids[i])
        have htk : (t.kids.take (i + 1)).map ze6 = (t.kids.take i).map ze6 ++ [ze6 t.kids[i]] := by rw [List.take_succ_eq_append_getElem hi, List.map_append]; rfl
        simp only [show ze6 t.kids[i] = (t.kids[i].kind, t.kids[i].label) from rfl] at hfd
        repeat' (first | refine nxt ?_ | ((first | refine zqh fun K hK => ?_ | refine zqr fun K hK => ?_ | refine zqs (hcc) ?_); (simp (disch := omega) only [go_sem, Nat.reduceBEq, ↓reduceIte, reduceCtorEq, Nat.reduceAdd, Nat.reduceLeDiff, q1, q3, q47, q48, q49, qH0, qH1, z0l, hfd])) | (refine zqd _ rfl ?_ ?_ <;> intro hc <;> (first | (cases hc; done) | ((try simp only [z06] at hc); (try omega)))) | refine zqu (by simp only [go_sem]; rfl) rfl ?_ | (refine hK _ ?_; clear hK K) | (refine zqf (fun hb => ?_) (fun hb => ?_) <;> (have hb2 := hb; try simp only [z06] at hb2) <;> ((have F : (_ : Bool) = _ := hb2); (simp (disch := omega) only [go_sem, Nat.reduceBEq, ↓reduceIte, Nat.reduceAdd, Nat.reduceLeDiff, F, q3, qH1, hfd]); clear hb F; (try omega))))
        · (refine Exists.intro _ (And.intro ?_ ⟨i + 1, rfl, ?_⟩)); rotate_left; (simp (disch := omega) only [go_sem, Nat.reduceBEq, Nat.reduceLeDiff, q1, q3, q47, q48, q49, qH0, qH1, true_and, Int.natCast_add, Int.natCast_one, hsn, htk]); rotate_left
          · omega
          · (repeat' (first | omega | refine And.intro ?_ ?_))
            · exact zio hi qp2 (by assumption)
            rw [<- htk]
            exact zrg hi qp3 (fun j hj e => hm (by rw [<- e]; exact List.mem_map.2 ⟨_, List.mem_iff_getElem.2 ⟨j, by rw [List.length_take]; omega, List.getElem_take⟩, rfl⟩))
        · exact z05 (by rw [zug (f := fun k : T => z4z t.kind k.kind) (k := i) hi (by assumption), Bool.false_and])
    · repeat' (first | ((refine zqh fun K hK => ?_); (simp (disch := omega) only [go_sem, Nat.reduceBEq, ↓reduceIte, reduceCtorEq, Nat.reduceAdd, q1, q48, q49, qH0, z0l])) | (refine zqd _ rfl ?_ ?_ <;> intro hc <;> (((try simp only [z06] at hc); (try omega)))) | refine nxt ?_ | refine zqz ?_ | refine zqu (by simp only [go_sem]; rfl) rfl ?_ | (refine hK _ ?_; clear hK K))
      rw [List.take_of_length_le (by omega)] at qp3
      refine z05 ?_
      rw [ziq (by omega) qp2, decide_eq_true qp3, Bool.true_and, Bool.true_and]
      exact decide_eq_decide.2 (by omega)
theorem pc_ids (t : T) (hs : szB t = true) (hc : cntT t <= 1000000000) : PC prog 55 [z1o t] (.bool (idsB t)) := by
 have ha := pc_IDs t (zfd t hs) (by omega)
 have hl := zb9 t
 refine z3q 1 (by simp only [pureD.pureL, z0h, Bool.and_self]) rfl (z30 [] func55 rfl (by decide +kernel) rfl ?_)
 show awp _ _ (Code.seq _ _) _ _
 repeat' (first | refine nxt ?_ | ((first | refine zqh fun K hK => ?_ | refine zqs (ha) ?_); (simp (disch := omega) only [go_sem, Nat.reduceBEq, ↓reduceIte, Nat.reduceAdd, Nat.reduceLeDiff])) | (refine hK _ ?_; clear hK K))
 (refine z6x (fun U st => ∃ (i : _), U = (idsT t).length - i /\ st.t 1 = .ptr 0 0 /\ st.t 3 = z0m (idsT t) /\ st.t 4 = .mp 1 /\ st.t 11 = z0m (idsT t) /\ st.t 12 = .int .i64 (idsT t).length /\ st.t 13 = .int .i64 i /\ st.H 0 = some (.box 27 (z04 t)) /\ st.H 1 = some (.map (setI (z19 ((idsT t).take i)))) /\ (i <= (idsT t).length) /\ (2 <= st.nx)) ?_ ?_); rotate_left; (rintro U st ⟨i, rfl, q1, q3, q4, q11, q12, q13, qH0, qH1, qp0, qp1⟩); rotate_left
 ·(refine ⟨_, 0, rfl, ?_⟩); (simp (disch := omega) only [go_sem, Nat.reduceBEq, Nat.reduceLeDiff, true_and, and_true, and_self, Int.natCast_zero, z0m, setI])
  rfl
 obtain ⟨on1, on2, on3, on4⟩ := z25 ((idsT t).take i)
 by_cases hi : i < (idsT t).length
 ·have hfd := zct (idsT t)[i] (z19 ((idsT t).take i))
  have hot := zs5 hi
  by_cases hm : (idsT t)[i] ∈ z19 ((idsT t).take i)
  ·rw [if_pos hm] at hfd hot
   have hsv := zgq on1 hm
   repeat' (first | ((first | refine zqh fun K hK => ?_ | refine zqr fun K hK => ?_); (simp (disch := omega) only [go_sem, Nat.reduceBEq, ↓reduceIte, reduceCtorEq, Nat.reduceAdd, Nat.reduceLeDiff, q4, q11, q12, q13, qH1, z0m, hfd, hsv])) | (refine zqd _ rfl ?_ ?_ <;> intro hc <;> (((try simp only [z06] at hc); (try omega)))) | refine nxt ?_ | (refine hK _ ?_; clear hK K))
   (refine Exists.intro _ (And.intro ?_ ⟨i + 1, rfl, ?_⟩)); rotate_left; (simp (disch := omega) only [go_sem, Nat.reduceBEq, Nat.reduceLeDiff, q1, q3, q4, q11, q12, q13, qH0, qH1, true_and, Int.natCast_add, Int.natCast_one, hot]); rotate_left
   ·omega
   ·omega
  ·rw [if_neg hm] at hfd hot
   have hsn := zak (z19 ((idsT t).take i)) (idsT t)[i]
   repeat' (first | ((first | refine zqh fun K hK => ?_ | refine zqr fun K hK => ?_); (simp (disch := omega) only [go_sem, Nat.reduceBEq, ↓reduceIte, reduceCtorEq, Nat.reduceAdd, Nat.reduceLeDiff, q4, q11, q12, q13, qH1, z0m, hfd])) | (refine zqd _ rfl ?_ ?_ <;> intro hc <;> (((try simp only [z06] at hc); (try omega)))) | refine nxt ?_ | (refine hK _ ?_; clear hK K))
   (refine Exists.intro _ (And.intro ?_ ⟨i + 1, rfl, ?_⟩)); rotate_left; (simp (disch := omega) only [go_sem, Nat.reduceBEq, Nat.reduceLeDiff, q1, q3, q4, q11, q12, q13, qH0, qH1, true_and, Int.natCast_add, Int.natCast_one, hot, hsn]); rotate_left
   ·omega
   ·omega
 ·rw [List.take_of_length_le (by omega)] at qH1 on1 on2 on3 on4
  have hfd : z2a prog 23 (.agg [.int .i64 0, .int .i64 0, .int .i64 0]) (setI (z19 (idsT t))) = some (if Idv.zero ∈ z19 (idsT t) then some ((z19 (idsT t)).idxOf Idv.zero, .bool true) else none) := zct Idv.zero (z19 (idsT t))
  have hsl : (setI (z19 (idsT t))).length = (z19 (idsT t)).length := by unfold setI; simp
  have hne : idsT t ≠ [] := by rw [z2f]; simp
  have hz := zx9 hne
  have hb : idsB t = ((idsT t).all (fun i => decide (i = Idv.zero)) || (decide ((t.id = Idv.zero) ↔ (t.kind = 0)) && decide ((idsT t).Nodup))) := rfl
  by_cases hm : Idv.zero ∈ z19 (idsT t)
  ·rw [if_pos hm] at hfd
   rw [decide_eq_true hm, Bool.true_and] at hz
   repeat' (first | ((first | refine zqh fun K hK => ?_ | refine zqe (by decide +kernel) fun K hK => ?_); (simp (disch := omega) only [go_sem, Nat.reduceBEq, ↓reduceIte, Nat.reduceAdd, q4, q12, q13, qH1, hfd, hsl])) | (refine zqd _ rfl ?_ ?_ <;> intro hc <;> (((try simp only [z06] at hc); (try omega)))) | refine nxt ?_ | refine zqz ?_ | refine zqu (by simp only [go_sem]; rfl) rfl ?_ | (refine hK _ ?_; clear hK K) | (refine zqf (fun hb => ?_) (fun hb => ?_) <;> (have hb2 := hb; try simp only [z06] at hb2) <;> ((first | have F := eq_false hb2 | have F := eq_true hb2); (simp (disch := omega) only [go_sem, Nat.reduceBEq, ↓reduceIte, reduceCtorEq, Nat.reduceAdd, Nat.reduceLeDiff, F, q1, q3, q4, qH0, qH1, z0m, hsl]); clear hb F; (try omega))))
   ·have hn : (idsT t).Nodup := on4.1 (by omega)
    refine z05 ?_
    rw [hb, hz, decide_eq_false (show ¬ (z19 (idsT t)).length = 1 by omega), decide_eq_true hn, Bool.false_or, Bool.and_true, <- zt0]
   ·have hn : ¬ (idsT t).Nodup := fun h => by have := on4.2 h; omega
    exact z05 (by rw [hb, hz, decide_eq_false (show ¬ (z19 (idsT t)).length = 1 by omega), decide_eq_false hn, Bool.false_or, Bool.and_false])
   ·exact z05 (by rw [hb, hz, decide_eq_true (by omega), Bool.true_or])
  ·rw [if_neg hm] at hfd
   rw [decide_eq_false hm, Bool.false_and] at hz
   repeat' (first | ((first | refine zqh fun K hK => ?_ | refine zqe (by decide +kernel) fun K hK => ?_); (simp (disch := omega) only [go_sem, Nat.reduceBEq, ↓reduceIte, Nat.reduceAdd, q3, q4, q12, q13, qH1, z0m, hfd, hsl])) | (refine zqd _ rfl ?_ ?_ <;> intro hc <;> (((try simp only [z06] at hc); (try omega)))) | refine nxt ?_ | refine zqz ?_ | refine zqu (by simp only [go_sem]; rfl) rfl ?_ | (refine hK _ ?_; clear hK K) | (refine zqf (fun hb => ?_) (fun hb => ?_) <;> (have hb2 := hb; try simp only [z06] at hb2) <;> ((first | have F := eq_false hb2 | have F := eq_true hb2); (simp (disch := omega) only [go_sem, Nat.reduceBEq, ↓reduceIte, reduceCtorEq, Nat.reduceAdd, Nat.reduceLeDiff, F, q1, qH0]); clear hb F; (try omega))))
   ·have hn : (idsT t).Nodup := on4.1 (by omega)
    refine z05 ?_
    rw [hb, hz, decide_eq_true hn, Bool.false_or, Bool.and_true, <- zt0]
   ·have hn : ¬ (idsT t).Nodup := fun h => by have := on4.2 h; omega
    exact z05 (by rw [hb, hz, decide_eq_false hn, Bool.false_or, Bool.and_false])
theorem zt1 (t : T) (hs : szB t = true) (hc : cntT t <= 1000000000) (V : depT t <= 1000000000) : PC prog 39 [z1o t] (.bool ((nodesT t).all zes && (decide (depT t <= 8) && (decide (cntT t <= 1024) && idsB t)))) := by
 have h1 := zxd (g := 53) (cap := []) zes rfl t (zfd t hs) (fun x hx => zxa x (zal t hs x hx))
 have h2 := zy5 t (zfd t hs) V
 have h3 := zdq t (zfd t hs) hc
 have h4 := pc_ids t hs hc
 refine z3q 1 (by simp only [pureD.pureL, z0h, Bool.and_self]) rfl (z30 [] func39 rfl (by decide +kernel) rfl ?_)
 show awp _ _ (Code.seq _ _) _ _
 repeat' (first | ((first | refine zqh fun K hK => ?_ | refine zqs (h1) ?_ | refine zqs (h2) ?_ | refine zqs (h3) ?_ | refine zqs (h4) ?_); (simp (disch := omega) only [go_sem, Nat.reduceBEq, ↓reduceIte, Nat.reduceAdd, Nat.reduceLeDiff])) | refine nxt ?_ | refine zqu (by simp only [go_sem]; rfl) rfl ?_ | (refine hK _ ?_; clear hK K) | (refine zqf (fun hb => ?_) (fun hb => ?_) <;> (have hb2 := hb; try simp only [z06] at hb2) <;> ((first | have F : (_ : Bool) = _ := hb2 | have F := eq_false hb2 | have F := eq_true hb2); (simp (disch := omega) only [go_sem, Nat.reduceBEq, ↓reduceIte, Nat.reduceAdd, Nat.reduceLeDiff, hb, F]); clear hb F; (try omega))))
 all_goals refine z05 ?_
 all_goals (simp (disch := omega) only [decide_eq_true, decide_eq_false, Bool.true_and, Bool.false_and, Bool.and_false, *])
end
section
open Abs Facts Tr
theorem z1x {a b : Nat} (h : ¬ a = b) : (a == b) = false := by simpa using h
theorem z2k {H : HM} {i j : Nat} (o : Option HObj) (h : ¬ j = i) : z0u H i o j = H j := if_neg h
section
variable {β : Type}
def z7r (enc : β -> D) : List (Idv × β) -> Idv -> D
 | [], _ => .any
 | p :: l, i => if i ∈ l.map (·.1) then z7r enc l i else if p.1 = i then enc p.2 else .any
def mapI (enc : β -> D) (l : List (Idv × β)) : List (D × D) := (z19 (l.map (·.1))).map fun i => (z3a i, z7r enc l i)
theorem z91 (enc : β -> D) (k : Idv) (v : β) (i : Idv) : ∀ l : List (Idv × β), z7r enc (l ++ [(k, v)]) i = if i = k then enc v else z7r enc l i
 | [] => by
  simp only [List.nil_append, z7r, List.map_nil, List.not_mem_nil, if_false]
  by_cases h : i = k
  ·rw [if_pos h, if_pos h.symm]
  ·rw [if_neg h, if_neg fun e => h e.symm]
 | p :: l => by
  rw [List.cons_append, z7r, z91 enc k v i l, z7r]
  by_cases h : i = k
  ·simp [h]
  ·by_cases h2 : i ∈ l.map (·.1)
   ·have h3 : i ∈ (l ++ [(k, v)]).map (·.1) := by rw [List.map_append, List.mem_append]; exact .inl h2
    rw [if_pos h3, if_neg h, if_neg h, if_pos h2]
   ·have h3 : i ∉ (l ++ [(k, v)]).map (·.1) := by
     rw [List.map_append, List.mem_append]
     rintro (h3 | h3)
     ·exact h2 h3
     ·simp at h3; exact h h3
    rw [if_neg h3, if_neg h, if_neg h2]
theorem zaw {enc : β -> D} {k : Idv} {v : β} : ∀ {l : List (Idv × β)}, (l.map (·.1)).Nodup -> (k, v) ∈ l -> z7r enc l k = enc v
 | [], _, h => by cases h
 | p :: l, hn, h => by
  rw [List.map_cons, List.nodup_cons] at hn
  rw [z7r]
  rcases List.mem_cons.1 h with e | h
  ·subst e; rw [if_neg hn.1, if_pos rfl]
  ·rw [if_pos (List.mem_map.2 ⟨_, h, rfl⟩), zaw hn.2 h]
theorem zdz (enc : β -> D) (l : List (Idv × β)) (k : Idv) : z2a prog 23 (z3a k) (mapI enc l) = some (if k ∈ l.map (·.1) then some ((z19 (l.map (·.1))).idxOf k, z7r enc l k) else none) := by
 have h := z5r z3a zk0 (z7r enc l) k (z19 (l.map (·.1)))
 rw [mapI, h]
 by_cases O : k ∈ l.map (·.1)
 ·rw [if_pos O, if_pos (((z25 _).2.1 k).2 O)]
 ·rw [if_neg O, if_neg fun h2 => O (((z25 _).2.1 k).1 h2)]
theorem ze0 (enc : β -> D) (l : List (Idv × β)) : (mapI enc l).length = (z19 (l.map (·.1))).length := by rw [mapI, List.length_map]
theorem zxw (enc : β -> D) (l : List (Idv × β)) (k : Idv) (v : β) : zsi (mapI enc l) (z3a k) (enc v) (z2a prog 23 (z3a k) (mapI enc l)) = some (.map (mapI enc (l ++ [(k, v)]))) := by
 have h := z5r z3a zk0 (z7r enc l) k (z19 (l.map (·.1)))
 rw [mapI, h]
 unfold mapI
 rw [List.map_append, List.map_cons, List.map_nil, z7g]
 by_cases O : k ∈ z19 (l.map (·.1))
 ·rw [if_pos O, if_pos O]
  simp only [zsi, Option.some.injEq, HObj.map.injEq]
  rw [z39 z3a (z7r enc l) k (enc v) _ (z25 _).1 O]
  exact List.map_congr_left fun i _ => by rw [z91]
 ·rw [if_neg O, if_neg O]
  simp only [zsi, Option.some.injEq, HObj.map.injEq]
  rw [List.map_append, List.map_cons, List.map_nil, z91, if_pos rfl]
  congr 1
  refine List.map_congr_left fun i hi => ?_
  have hik : ¬ i = k := fun e => O (by rw [<- e]; exact hi)
  rw [z91, if_neg hik]
theorem zh2 (enc : β -> D) (l : List (Idv × β)) (k : Idv) (v : β) :
  (k ∈ l.map (·.1) /\ ∃ n, z2a prog 23 (.agg [.int .i64 k.act, .int .i64 k.item, .int .i64 k.n]) (mapI enc l) = some (some (n, z7r enc l k)) /\ z3h (mapI enc l) n (enc v) = mapI enc (l ++ [(k, v)])) \/
  (k ∉ l.map (·.1) /\ z2a prog 23 (.agg [.int .i64 k.act, .int .i64 k.item, .int .i64 k.n]) (mapI enc l) = some none /\ mapI enc l ++ [(.agg [.int .i64 k.act, .int .i64 k.item, .int .i64 k.n], enc v)] = mapI enc (l ++ [(k, v)])) := by
 have h1 := zdz enc l k
 have h2 := zxw enc l k v
 rw [h1] at h2
 by_cases O : k ∈ l.map (·.1)
 ·rw [if_pos O] at h1 h2
  simp only [zsi, Option.some.injEq, HObj.map.injEq] at h2
  exact .inl ⟨O, _, h1, h2⟩
 ·rw [if_neg O] at h1 h2
  simp only [zsi, Option.some.injEq, HObj.map.injEq] at h2
  exact .inr ⟨O, h1, h2⟩
end
end
end Go.Proofs.YtfechgagcgbldaaDoor
namespace Go.Proofs.YtfechgagcgbldaaDoor.Abs
open Go.RowKit
variable {P : Program}
def hiH (n : Nat) (H : HM) : HM := fun id => if n <= id then H id else none
theorem hi_get {n id : Nat} {H : HM} (h : n <= id) : hiH n H id = H id := if_pos h
theorem zwa {s : RS} {w : World} (h : RH P s w) (H' : HM) (V : ∀ id, H' id = s.H id \/ H' id = none) : RH P { s with H := H' } w := by
 have hl : Later s { s with H := H' } := ⟨Nat.le_refl _, fun _ _ h => h, fun id _ => by
  rcases V id with e | e
  ·show objLe (s.H id) (H' id) _ _
   rw [e]; exact objLe.refl _ _
  ·show objLe (s.H id) (H' id) _ _
   rw [e]
   unfold objLe
   cases s.H id with
   | none => rfl
   | some o => cases o <;> exact .inl rfl⟩
 have ho : ∀ k, owned { s with H := H' } k -> owned s k := by
  rintro k ⟨id, hid, hH, hb⟩
  rcases V id with e | e
  ·exact ⟨id, hid, by rw [<- e]; exact hH, hb⟩
  ·exact (hH e).elim
 refine ⟨fun a u hm => ⟨(h.mem a u hm).1, fun O => (h.mem a u hm).2 (ho _ O)⟩, fun id o hido => ?_, fun i j hi hj hij hb => ?_, fun g => rel.later hl _ _ (h.glob g)⟩
 ·have hido : H' id = some o := hido
  rcases V id with e | e
  ·rw [e] at hido
   obtain ⟨h1, h2⟩ := h.obj id o hido
   exact ⟨h1, h2.mono hl fun b _ => rfl⟩
  ·rw [e] at hido; cases hido
 ·have hi' : s.H i ≠ none := by
   rcases V i with e | e
   ·rw [<- e]; exact hi
   ·exact (hi e).elim
  have hj' : s.H j ≠ none := by
   rcases V j with e | e
   ·rw [<- e]; exact hj
   ·exact (hj e).elim
  exact h.apart i j hi' hj' hij hb
noncomputable def finS (s : RS) (w : World) (n : Nat) : RS :=
 {m := (RS.shut { s with H := hiH n s.H } w).m, κ := s.κ, H := zsc n s.H, nx := n }
theorem AC_fin {f : FuncId} {ds : List D} {H : HM} {nx k : Nat} {r : D} {KK : HM -> Prop} (hr : pureD r = true) (h : AC P f ds H nx fun r' H' _ => (∃ d, z2p P (hiH nx H') k r' = some d /\ Le d r) /\ KK H')
  (O : ∀ H', KK H' -> ∀ id o, id < nx -> H' id = some o -> H id = some o \/ lowO nx o = true) :
  AC P f ds H nx fun r' H2 nx2 => r' = r /\ nx2 = nx /\ ∃ H', KK H' /\ H2 = zsc nx H' := by
 refine ⟨h.1, fun s w vs h1 h2 h3 h4 => (h.2 s w vs h1 h2 h3 h4).mono fun e w' ⟨v, r', s', he, ⟨⟨d, V, hle⟩, hK⟩, hstep, hRH, hrel⟩ => ?_⟩
 subst h1; subst h2
 have hlow := O _ hK
 let s1 : RS := { s' with H := hiH s.nx s'.H }
 have hl1 : Later s' s1 := ⟨Nat.le_refl _, fun _ _ h => h, fun id _ => by
  show objLe (s'.H id) (hiH s.nx s'.H id) _ _
  unfold hiH
  split
  ·exact objLe.refl _ _
  ·unfold objLe
   cases s'.H id with
   | none => rfl
   | some o => cases o <;> exact .inl rfl⟩
 have hRH1 : RH P s1 w' := zwa hRH _ fun id => by
  unfold hiH; split
  ·exact .inl rfl
  ·exact .inr rfl
 obtain ⟨hst1, hRH2⟩ := z9d hRH1
 have hrel1 : rel s1 r' v := rel.later hl1 _ _ hrel
 have hd2 : rel (s1.shut w') d v := zcg hRH1 k r' v d hrel1 V
 have hr2 : rel (s1.shut w') r v := hle _ _ hd2
 let s2 : RS := finS s' w' s.nx
 have hm2 : ∀ a u, s'.m a = some u -> s2.m a = some u := fun a u hm => hst1.mem a u hm
 have hH : ∀ id, id < s.nx -> s2.H id = s'.H id /\ s2.κ id = s'.κ id := fun id hid => ⟨if_pos hid, rfl⟩
 have hown : ∀ k, owned s2 k -> ∃ id, id < s.nx /\ s'.H id ≠ none /\ blockOf (s'.κ id) = some k := fun k ⟨id, hid, h5, h6⟩ => by
  have hid : id < s.nx := hid
  rw [(hH id hid).1] at h5
  exact ⟨id, hid, h5, h6⟩
 have hown' : ∀ k, owned s2 k -> owned s' k := fun k hk2 => by
  obtain ⟨id, hid, h5, h6⟩ := hown k hk2
  exact ⟨id, Nat.lt_of_lt_of_le hid hstep.nx, h5, h6⟩
 -- memory: what was read, and the objects of the callee's own
 have hmem : ∀ a u, s2.m a = some u -> (s'.m a = some u) \/ (w'.cell? a = some u /\ ∃ id, s.nx <= id /\ s'.H id ≠ none /\ blockOf (s'.κ id) = some a.block) := by
  intro a u hu
  have hu : (s1.shut w').m a = some u := hu
  simp only [RS.shut] at hu
  split at hu
  ·rename_i ho
   obtain ⟨id, hid, h5, h6⟩ := ho
   have h5 : hiH s.nx s'.H id ≠ none := h5
   unfold hiH at h5
   split at h5
   ·rename_i hge
    exact .inr ⟨hu, id, hge, h5, h6⟩
   ·exact (h5 rfl).elim
  ·exact .inl hu
 have hcut : ∀ (d : D) (v : Value), lowD s.nx d = true -> rel s' d v -> rel s2 d v := zez (s := s') (s' := s2) hm2 (Nat.le_refl _) hH
 refine ⟨v, r, s2, he, ⟨rfl, rfl, s'.H, hK, rfl⟩, ?_, ?_, z1k (s := s1.shut w') (s' := s2) (fun _ _ h => h) _ _ hr hr2⟩
 ·refine ⟨hstep.os, hstep.tape, hstep.output, hstep.size, Nat.le_refl _, fun a u hm => hm2 a u (hstep.mem a u hm), fun a u hu => ?_, fun id hid => by rw [(hH id hid).1]; exact hstep.objs id hid, hstep.keep, fun k hk' => hstep.own k (hown' k hk')⟩
  rcases hmem a u hu with h5 | ⟨_, id, hge, h6, h7⟩
  ·exact hstep.new a u h5
  ·rcases hstep.own a.block ⟨id, hRH.fresh h6, h6, h7⟩ with h8 | h8
   ·exact .inr (.inr h8)
   ·exact .inr (.inl h8)
 ·refine ⟨fun a u hu => ?_, fun id o ho => ?_, fun i j hi hj hij hb => ?_, fun g => ?_⟩
  ·rcases hmem a u hu with h5 | ⟨h5, id, hge, h6, h7⟩
   ·exact ⟨(hRH.mem a u h5).1, fun ho => (hRH.mem a u h5).2 (hown' _ ho)⟩
   ·refine ⟨h5, fun ho => ?_⟩
    obtain ⟨j, hj, h8, h9⟩ := hown _ ho
    exact hRH.apart j id h8 h6 (by omega) (by rw [h9]; simp) (by rw [h9, h7])
  ·have hid : id < s.nx := by
    rcases Nat.lt_or_ge id s.nx with h9 | h9
    ·exact h9
    ·have : s2.H id = none := if_neg (by omega)
     rw [this] at ho; cases ho
   rw [(hH id hid).1] at ho
   refine ⟨hid, zf0 (s := s') (s' := s2) (n := s.nx) hm2 (Nat.le_refl _) hH ?_ (hRH.obj id o ho).2⟩
   rcases hlow id o hid ho with h9 | h9
   ·exact zey (s := s) (h3.obj id o h9).2
   ·exact h9
  ·have lt : ∀ i, s2.H i ≠ none -> i < s.nx /\ s'.H i ≠ none := fun i hi => by
    rcases Nat.lt_or_ge i s.nx with h9 | h9
    ·exact ⟨h9, by rw [<- (hH i h9).1]; exact hi⟩
    ·exact (hi (if_neg (by omega))).elim
   exact hRH.apart i j (lt i hi).2 (lt j hj).2 hij hb
  ·exact hcut _ _ (z6c _ _ (z4g g)) (hRH.glob g)
theorem zpi {f : FuncId} {ds : List D} {H : HM} {nx k : Nat} {r : D} (hr : pureD r = true)
  (h : AC P f ds H nx fun r' H' _ => (∃ d, z2p P (hiH nx H') k r' = some d /\ Le d r) /\ ∀ id, id < nx -> H' id = H id) : RC P f ds H nx r := by
 have h1 := AC_fin hr h (fun H' O id o hid ho => .inl (by rw [<- O id hid]; exact ho))
 refine ⟨h1.1, fun s w vs e1 e2 e3 e4 => (h1.2 s w vs e1 e2 e3 e4).mono fun e w' ⟨v, r1, s1, he, ⟨hr', hnx, H', O, hcut⟩, hstep, hRH, hrel⟩ => ⟨v, r1, s1, he, ⟨hr', ?_, hnx⟩, hstep, hRH, hrel⟩⟩
 subst e1; subst e2
 rw [hcut]; exact zo6 e3 O
end Go.Proofs.YtfechgagcgbldaaDoor.Abs
namespace Go.Proofs.YtfechgagcgbldaaDoor.Abs
open Go.RowKit
variable {P : Program}
theorem zzm {st : St} {b : Nat} {e : TypeId} {cs cs' : List D} (hb : st.H b = some (.box e cs)) (hl : LeL cs cs') :
  SealTo P st { st with H := z0u st.H b (some (.box e cs')) } := by
 intro N s a w hf
 have hHb : s.H b = some (.box e cs) := by rw [hf.H]; exact hb
 obtain ⟨_, q2⟩ := hf.heap.obj b _ hHb
 obtain ⟨g3, g4⟩ := z4i (w' := w) hf.heap b _ (.box e cs') (s.κ b) hHb rfl rfl rfl (Nat.le_refl _) (fun _ _ _ => rfl) (.inr ⟨_, rfl, rfl⟩) (fun b hb => .inl hb) (fun hL => by
  obtain ⟨b', vs, u1, u2, u3, u4⟩ := q2
  exact ⟨b', vs, u1, u2, relAll.later hL _ _ (z8v hl u3), u4⟩)
 refine ⟨_, ⟨?_, ?_, hf.size, hf.defers, fun i => rel.later g3.later _ _ (hf.tmps i), g4⟩, g3⟩
 ·simp only [RS.set, hf.H]
 ·simp only [RS.set, hf.nx]
theorem z01 {k nx : Nat} (h : k < nx) : (nx == nx + 1) = false /\ (nx == nx + 2) = false /\ (nx == nx + 3) = false /\ (nx + 1 == nx) = false /\ (nx + 2 == nx) = false /\ (nx + 3 == nx) = false /\ (nx + 1 == nx + 2) = false /\ (nx + 2 == nx + 1) = false /\ (nx + 1 == nx + 3) = false /\ (nx + 3 == nx + 1) = false /\ (nx + 2 == nx + 3) = false /\ (nx + 3 == nx + 2) = false /\
  (k == nx) = false /\ (nx == k) = false /\ (k == nx + 1) = false /\ (nx + 1 == k) = false /\ (k == nx + 2) = false /\ (nx + 2 == k) = false /\ (k == nx + 3) = false /\ (nx + 3 == k) = false := by
 have key : ∀ a b : Nat, ¬ a = b -> (a == b) = false := fun a b h => by simpa using h
 exact ⟨key _ _ (by omega), key _ _ (by omega), key _ _ (by omega), key _ _ (by omega), key _ _ (by omega), key _ _ (by omega), key _ _ (by omega), key _ _ (by omega), key _ _ (by omega), key _ _ (by omega), key _ _ (by omega), key _ _ (by omega), key _ _ (by omega), key _ _ (by omega), key _ _ (by omega), key _ _ (by omega), key _ _ (by omega), key _ _ (by omega), key _ _ (by omega), key _ _ (by omega)⟩
def noBox : HObj -> Bool
 | .box .. => false
 | _ => true
theorem zs4 (st : St) {objs : List HObj} (hr : objs.all noBox = true) : z9h st (zjk st.H st.nx objs) (st.nx + objs.length) := by
 refine ⟨Nat.le_add_right _ _, fun id => ⟨fun hlt e cs h => ?_, fun hlt e cs h => ?_⟩⟩
 ·rw [zex, if_neg (by omega)]; exact h
 ·rw [zex] at h
  split at h
  ·obtain ⟨hl, he⟩ := List.getElem?_eq_some_iff.1 h
   have := List.all_eq_true.1 hr _ (List.getElem_mem hl)
   rw [he] at this; cases this
  ·exact ⟨by omega, h⟩
theorem z9e {own : List Nat} {objs : List HObj} {r : D} {n : FuncId} {args cap : List D} {g : List Oper -> (St -> Prop) -> St -> Prop} {rest : List Oper} {K : St -> Prop} {st : St} {dst : Option Nat} (h : OC P n (args ++ cap) objs r) (h0 : z09 5000000 own dst = false) (hm : z09 4000000 own dst = true) (hr : objs.all noBox = true)
  (O : g rest K ((st.withH (zjk st.H st.nx objs) (st.nx + objs.length)).put dst (renD (fun j => st.nx + j) r))) (ht : tcM own dst = none := by rfl) (hN : z09 10000000 own dst = false := by rfl) : zz2 P own (.fn n cap) args g rest K st dst :=
 .inr (.inr ⟨h0, hm, _, _, _, h.2.2.2 st.H st.nx, .inl ⟨ht, .inl ⟨hN, zs4 st hr⟩⟩, O⟩)
end Go.Proofs.YtfechgagcgbldaaDoor.Abs
namespace Go.Proofs.YtfechgagcgbldaaDoor.Abs
open Go.RowKit
variable {P : Program}
def Sem (P : Program) (N : Nat) (c : Code) (Q : Exit -> St -> Prop) (st : St) : Prop :=
 ∀ s0 w0 s a w, Fr P N st s a w -> Step s0 w0 s w -> c.wp P (lift P N s0 w0 Q) a w
theorem Sem.walk {N : Nat} {own : List Nat} {c : Code} {Q : Exit -> St -> Prop} {st : St} (hm : P.follows .mixedOrders = true) (hok : z66 N c = true) (h : awp P own c Q st) : Sem P N c Q st :=
 fun _ _ s a w hf hs => z4a hm c Q st s a w hok h hf hs
theorem Sem.seq {N : Nat} {x y : Code} {Q : Exit -> St -> Prop} {st : St} (h : Sem P N x (zj9 (fun st => Sem P N y Q st) Q) st) : Sem P N (.seq x y) Q st := by
 intro s0 w0 s a w hf hs
 refine wp_seq (wp_mono (h s0 w0 s a w hf hs) ?_)
 rintro e a' w' ⟨st', s', hq, hf', hs'⟩
 cases e with
 | normal => exact hq s0 w0 s' a' w' hf' hs'
 | exit id => exact ⟨st', s', hq, hf', hs'⟩
 | goto l => exact ⟨st', s', hq, hf', hs'⟩
 | ret => exact ⟨st', s', hq, hf', hs'⟩
 | panic ch => exact ⟨st', s', hq, hf', hs'⟩
 | outgrown => exact ⟨st', s', hq, hf', hs'⟩
theorem Sem.cond {N : Nat} {c : Operand} {x y : Code} {Q : Exit -> St -> Prop} {st : St} (t : Bool) (ht : st.ev c = .bool t) (h1 : t = true -> Sem P N x Q st) (h2 : t = false -> Sem P N y Q st) : Sem P N (.cond c x y) Q st := by
 intro s0 w0 s a w hf hs
 have hv := hf.ev c
 rw [ht] at hv
 simp only [rel] at hv
 exact wp_cond_split hv (fun e => h1 e s0 w0 s a w hf hs) (fun e => h2 e s0 w0 s a w hf hs)
theorem Sem.seal {N : Nat} {c : Code} {Q : Exit -> St -> Prop} {st : St} (st' : St) (hs : SealTo P st st') (h : Sem P N c Q st') : Sem P N c Q st := by
 intro s0 w0 s a w hf hs0
 obtain ⟨s', hf', hs'⟩ := hs N s a w hf
 exact h s0 w0 s' a w hf' (hs0.trans hs')
theorem z75 {f : FuncId} {fn : Func} {c : Code} (hf : P.funcs[f]? = some fn) (hb : fn.body = some c) (hname : (fn.name == "runtime.NumGoroutine") = false)
  {ds : List D} {H : HM} {nx : Nat} {K : D -> HM -> Nat -> Prop} (hds : ds.length <= fn.ntmps) (h : Sem P fn.ntmps c (retQ P fn.results.toList K) (st0 ds H nx)) : AC P f ds H nx K := by
 refine ⟨⟨fn, hf, hname, by rw [hb]; rfl⟩, fun s w vs hH hnx hRH hr => ?_⟩
 have hlen := z02 hr
 refine calls_of_wp hf hb ?_
 have hfr : Fr P fn.ntmps (st0 ds H nx) s { tmps := vs.toArray ++ Array.replicate (fn.ntmps - vs.toArray.size) undef, defers := [] } w := by
  refine ⟨hH, hnx, by simp; omega, rfl, fun i => ?_, hRH⟩
  simp only [st0]
  cases V : ds[i]? with
  | none => simp [rel]
  | some d =>
   obtain ⟨v, hv, hrel⟩ := z1f hr i d V
   have hi : i < vs.length := by
    rcases Nat.lt_or_ge i vs.length with h | h
    ·exact h
    ·rw [List.getElem?_eq_none h] at hv; cases hv
   simp only [Array.getD_eq_getD_getElem?, Option.getD_some]
   rw [Array.getElem?_append_left (by simpa using hi)]
   simp only [List.getElem?_toArray, hv, Option.getD_some]
   exact hrel
 refine wp_mono (h s w s _ w hfr (Step.refl s w)) ?_
 rintro e a' w' ⟨st', s', hq, hf', hs'⟩
 cases e with
 | normal =>
  obtain ⟨r, hr, hK⟩ := hq
  obtain ⟨v, h1, h2⟩ := z5f hf' hr
  exact ⟨hf'.defers, v, h1, v, r, s', rfl, by rw [hf'.H, hf'.nx]; exact hK, hs', hf'.heap, h2⟩
 | ret =>
  obtain ⟨r, hr, hK⟩ := hq
  obtain ⟨v, h1, h2⟩ := z5f hf' hr
  exact ⟨hf'.defers, v, h1, v, r, s', rfl, by rw [hf'.H, hf'.nx]; exact hK, hs', hf'.heap, h2⟩
 | exit id => exact hq.elim
 | goto l => exact hq.elim
 | panic ch => exact hq.elim
 | outgrown => exact hq.elim
section
variable {st : St} {dst : Option Nat} {n : FuncId} {cap args : List D} {g : List Oper -> (St -> Prop) -> St -> Prop} {rest : List Oper} {K : St -> Prop}
end
end Go.Proofs.YtfechgagcgbldaaDoor.Abs
namespace Go.Proofs.YtfechgagcgbldaaDoor.Abs
open Go.RowKit
variable {P : Program}
theorem zdu {n : Nat} {o : HObj} (h : z6t o = true) : lowO n o = true := by
 cases o with
 | box e cs => exact z1t n cs h
 | row e k cs => exact z1t n cs h
 | map es =>
  simp only [z6t, Bool.and_eq_true] at h
  simp only [lowO, z1t n _ h.1, z1t n _ h.2, Bool.and_self]
 | raw o => rfl
end Go.Proofs.YtfechgagcgbldaaDoor.Abs
namespace Go.Proofs.YtfechgagcgbldaaDoor.Abs
open Go.RowKit
variable {P : Program}
theorem Sem.block {N id : Nat} {c : Code} {Q : Exit -> St -> Prop} {st : St} (h : Sem P N c (znn id Q) st) : Sem P N (.block id c) Q st := by
 intro s0 w0 s a w hf hs
 refine wp_block (wp_mono (h s0 w0 s a w hf hs) ?_)
 rintro e a' w' ⟨st', s', hq, hf', hs'⟩
 cases e with
 | exit id' =>
  simp only [znn] at hq
  simp only [Exit.inBlock]
  split
  ·rename_i he; rw [if_pos he] at hq; exact ⟨st', s', hq, hf', hs'⟩
  ·rename_i he; rw [if_neg he] at hq; exact ⟨st', s', hq, hf', hs'⟩
 | normal => exact ⟨st', s', hq, hf', hs'⟩
 | goto l => exact ⟨st', s', hq, hf', hs'⟩
 | ret => exact ⟨st', s', hq, hf', hs'⟩
 | panic ch => exact ⟨st', s', hq, hf', hs'⟩
 | outgrown => exact ⟨st', s', hq, hf', hs'⟩
theorem Sem.mono {N : Nat} {c : Code} {Q Q' : Exit -> St -> Prop} {st : St} (h : Sem P N c Q st) (hq : ∀ e st, Q e st -> Q' e st) : Sem P N c Q' st := fun s0 w0 s a w hf hs =>
 wp_mono (h s0 w0 s a w hf hs) fun _ _ _ ⟨st', s', h1, h2, h3⟩ => ⟨st', s', hq _ _ h1, h2, h3⟩
theorem z9w {N : Nat} {own : List Nat} {ops : Array Oper} {K : St -> Prop} {Q : Exit -> Act -> World -> Prop} {r : List Oper} : ∀ (l : List Oper) (st : St) (s : RS) (a : Act) (w : World),
  (∀ o ∈ l, z36 N o = true) -> z1p P own (znf ops) l K st -> Fr P N st s a w ->
  (∀ st' s' a' w', K st' -> Fr P N st' s' a' w' -> Step s w s' w' -> wpList P ops Q r a' w') -> wpList P ops Q (l ++ r) a w
 | [], st, s, a, w, _, h, hf, O => O st s a w h hf (Step.refl s w)
 | o :: rest, st, s, a, w, hdst, h, hf, O => by
  have ho := hdst o (by simp)
  have hrest : ∀ o' ∈ rest, z36 N o' = true := fun o' h' => hdst o' (List.mem_cons_of_mem _ h')
  simp only [z1p] at h
  rw [List.cons_append]
  unfold wpList
  rw [zfv] at h
  split at h
  ·rename_i hg
   rw [if_pos (z3v hf hg)]
   exact .inl (zfu hf ho h fun st' s' a' w' hK hf' hstep =>
    z9w rest st' s' a' w' hrest hK hf' fun st2 s2 a2 w2 hK2 hf2 hstep2 => O st2 s2 a2 w2 hK2 hf2 (hstep.trans hstep2))
  ·rename_i hg
   rw [if_neg (by rw [z3v hf hg]; simp)]
   exact z9w rest _ s _ w hrest h (hf.put0 ho zft) O
  ·cases h
theorem z71 {N : Nat} {ops : Array Oper} {Q : Exit -> Act -> World -> Prop} {rest : List Oper} {o : Oper} {st : St} {s : RS} {a : Act} {w w' : World} {v : Value} (hf : Fr P N st s a w) (hg : o.guard = none)
  (hrun : (execOp a.eval o).run P w = .ok (.value v) w') (O : wpList P ops Q rest (a.put o.dst v) w') : wpList P ops Q (o :: rest) a w := by
 unfold wpList
 rw [if_pos (z3v hf (g := true) (by unfold z77; rw [hg]))]
 refine .inl ?_
 unfold Oper.wp
 rw [hrun, Oper.upon_value]
 exact O
theorem RS.set_self {s : RS} {w : World} {id : Nat} {o o' : HObj} (h : RH P s w) (hid : s.H id = some o) (hle : z6z o = true) (hle' : z6z o' = true) (hok : Later s (s.set id (s.κ id) o') -> objOK P (s.set id (s.κ id) o') w (s.κ id) o') :
  Step s w (s.set id (s.κ id) o') w /\ RH P (s.set id (s.κ id) o') w :=
 z4i h id o o' (s.κ id) hid rfl rfl rfl (Nat.le_refl _) (fun _ _ _ => rfl) (zco hle (.inr ⟨o', rfl, hle', rfl⟩)) (fun b hb => .inl hb) hok
def rndK (b1 : Nat) (I : St -> Prop) (Q : Exit -> St -> Prop) : Exit -> St -> Prop
 | .normal, st => I st
 | .exit id, st => id = b1 /\ I st
 | .ret, st => Q .ret st
 | _, _ => False
section
variable {N : Nat} {own : List Nat} {i0 b i1 b1 i4 : Nat} {ops0 ops1 ops4 : Array Oper} {pre : List Oper} {t7 t8 t9 t10 : Nat} {T : TypeId} {x : Operand} {rest4 : List Oper} {body : Code} {Q : Exit -> St -> Prop} {st : St}
def zpt (st1 : St) (m t7 : Nat) (M J : HObj) : St := (st1.withH (z0u (z0u st1.H m (some M)) st1.nx (some J)) (st1.nx + 1)).put (some t7) (.it st1.nx)
def zpu (st1 : St) (it t8 t9 t10 : Nat) (J : HObj) (k v : D) : St := (((st1.withH (z0u st1.H it (some J)) st1.nx).put (some t8) (.tup [.bool true, k, v])).put (some t9) (.bool true)).put (some t10) (.tup [k, v])
def zjy (st1 : St) (m t8 t9 : Nat) (es : List (D × D)) : St := ((st1.put (some t8) (.tup [.bool false])).put (some t9) (.bool false)).withH (z0u st1.H m (some (.map es))) st1.nx
def RngOK (P : Program) (own : List Nat) (m : Nat) (es : List (D × D)) (t7 t8 t9 t10 b1 : Nat) (gs : List (Option Nat)) (rest4 : List Oper) (body : Code) (Q : Exit -> St -> Prop) (st1 : St) : Prop :=
 ∀ (M : HObj) (J : List Nat -> HObj), ∃ I : List Nat -> St -> Prop,
  (∀ l s, I l s -> s.H m = some M /\ s.H st1.nx = some (J l) /\ s.t t7 = .it st1.nx) /\
  I [] (zpt st1 m t7 M (J [])) /\
  (∀ l s i k v, I l s -> l.Nodup -> (∀ j ∈ l, j < es.length) -> i ∉ l -> es[i]? = some (k, v) ->
   z1p P own gs rest4 (fun s' => awp P own body (rndK b1 (I (l ++ [i])) Q) s') (zpu s st1.nx t8 t9 t10 (J (l ++ [i])) k v)) /\
  ∀ l s, I l s -> l.Nodup -> (∀ j ∈ l, j < es.length) -> (∀ i, i < es.length -> i ∈ l) -> Q .normal (zjy s m t8 t9 es)
theorem zsq {s : RS} {es : List (D × D)} {ens : List MapEntry} (h1 : relAll s (es.map (·.1)) (ens.map (·.key))) (h2 : relAll s (es.map (·.2)) (ens.map (·.val))) :
  es.length = ens.length /\ ∀ (i : Nat) (e : MapEntry), ens[i]? = some e -> ∃ k v, es[i]? = some (k, v) /\ rel s k e.key /\ rel s v e.val := by
 have hl := z02 h1
 simp only [List.length_map] at hl
 refine ⟨hl.symm, fun i e he => ?_⟩
 have hi : i < es.length := by rw [<- hl]; exact (List.getElem?_eq_some_iff.1 he).1
 obtain ⟨u1, g1, g2⟩ := z1f h1 i es[i].1 (by simp [hi])
 obtain ⟨u2, g3, g4⟩ := z1f h2 i es[i].2 (by simp [hi])
 rw [List.getElem?_map, he, Option.map_some, Option.some.injEq] at g1 g3
 subst g1; subst g3
 exact ⟨es[i].1, es[i].2, by rw [List.getElem?_eq_getElem hi], g2, g4⟩
theorem zi3 {gs : List (Option Nat)} {o : Oper} {K : St -> Prop} {st : St} {d : D} {ds : List D} (ho : o.op = .extract (.tmp t8) 0) (hg : o.guard = none) (h : st.t t8 = .tup (d :: ds)) (O : K (st.put o.dst d)) : z1p P own gs [o] K st := by
 unfold z1p zbg
 rw [hg]
 simp only [z1p]
 unfold opW
 rw [ho]
 simp only
 unfold opR
 rw [ho]
 simp only [St.ev, h, List.getElem?_cons_zero, St.keep, Option.map_some]
 exact O
theorem put_t (st : St) (i : Nat) (d : D) : (st.put (some i) d).t i = d := by simp [St.put, zwd]
theorem zcs {a : Act} {i : Nat} {v : Value} (h : i < a.tmps.size) : (a.put (some i) v).eval (.tmp i) = v := by
 simp [Act.put, Act.eval, Array.getD_eq_getD_getElem?, h]
theorem zai {a : Act} {i j : Nat} {v : Value} (h : j ≠ i) : (a.put (some i) v).eval (.tmp j) = a.eval (.tmp j) := by
 simp [Act.put, Act.eval, Array.getD_eq_getD_getElem?, Array.getElem?_setIfInBounds_ne (Ne.symm h)]
theorem Sem.rangeMap (hm0 : P.follows .mixedOrders = true) {o0 o1 o2 o4 : Oper} (e0 : o0.op = .range T x /\ o0.dst = some t7 /\ o0.guard = none) (e1 : o1.op = .next (.tmp t7) false /\ o1.dst = some t8 /\ o1.guard = none)
  (e2 : o2.op = .extract (.tmp t8) 0 /\ o2.dst = some t9 /\ o2.guard = none) (e4 : o4.op = .entry (.tmp t7) /\ o4.dst = some t10 /\ o4.guard = none)
  (h0 : ops0.toList = pre ++ [o0]) (h1 : ops1.toList = [o1, o2]) (h4 : ops4.toList = o4 :: rest4) {kt et : TypeId} (hT : z3r P T = some (kt, et))
  (hN : t7 < N /\ t8 < N /\ t9 < N /\ t10 < N /\ t7 ≠ t8 /\ t7 ≠ t9) (V : ∀ o ∈ pre, z36 N o = true) (hd4 : ∀ o ∈ rest4, z36 N o = true) (hb : z66 N body = true)
  (hpre : z1p P own (znf ops0) pre (fun st1 => ∃ m es, st1.ev x = .mp m /\ st1.H m = some (.map es) /\ RngOK P own m es t7 t8 t9 t10 b1 (znf ops4) rest4 body Q st1) st) :
  Sem P N (.seq (.region i0 ops0 false) (.block b (.loop (.seq (.region i1 ops1 false) (.seq (.cond (.tmp t9) .skip (.exit b)) (.block b1 (.seq (.region i4 ops4 false) body))))))) Q st := by
 intro s0 w0 s a w hf hs
 obtain ⟨n7, n8, n9, n10, n78, n79⟩ := hN
 have d0 : z36 N o0 = true := by unfold z36; rw [e0.2.1]; simpa using n7
 have d1 : z36 N o1 = true := by unfold z36; rw [e1.2.1]; simpa using n8
 have d2 : z36 N o2 = true := by unfold z36; rw [e2.2.1]; simpa using n9
 have d4 : z36 N o4 = true := by unfold z36; rw [e4.2.1]; simpa using n10
 refine wp_seq (wp_region_list ?_)
 rw [h0]
 refine z9w pre st s a w V hpre hf fun st1 s1 a1 w1 ⟨m, es, hx, hH, hR⟩ hf1 hs1 => ?_
 have hs01 := hs.trans hs1
 have hHs : s1.H m = some (.map es) := by rw [hf1.H]; exact hH
 obtain ⟨hmn, rm, ens, clock, hκ, hheap, hk1, hk2, hst⟩ := hf1.heap.obj m _ hHs
 have hxv := hf1.ev x
 rw [hx] at hxv
 simp only [rel] at hxv
 have hxv := hxv.2.2 _ hHs rfl
 rw [hκ] at hxv
 obtain ⟨hlen, hent⟩ := zsq hk1 hk2
 obtain ⟨g1, g2⟩ := RS.set_self (o' := .raw (.map ens clock)) hf1.heap hHs rfl rfl (fun _ => ⟨rm, .inr hκ, hheap⟩)
 obtain ⟨g3, g4⟩ := z57 g2 (Grew.alloc w1 (.mapIter (some rm) clock #[] clock)) (.raw (.mapIter (some rm) clock #[] clock)) (.pointer (some ⟨w1.heap.size, 0, none⟩)) (fun b hb => by simp only [blockOf, Option.some.injEq] at hb; omega)
  ⟨w1.heap.size, .inl rfl, by simpa using heap_alloc_new w1 (.mapIter (some rm) clock #[] clock)⟩
 have hrun : (execOp a1.eval o0).run P w1 = .ok (.value (.pointer (some ⟨w1.heap.size, 0, none⟩))) (w1.alloc (.mapIter (some rm) clock #[] clock)) := by
  unfold execOp
  rw [e0.1]
  simp [hxv, run_range_map w1 T kt et rm ens clock (z8f hT) hheap]
 refine z71 hf1 e0.2.2 hrun ?_
 show Exit.then _ _ .normal _ _
 unfold Exit.then
 simp only
 generalize hs3e : (s1.set m (s1.κ m) (.raw (.map ens clock))).add (.pointer (some ⟨w1.heap.size, 0, none⟩)) (.raw (.mapIter (some rm) clock #[] clock)) = s3 at g3 g4
 generalize hw3e : w1.alloc (.mapIter (some rm) clock #[] clock) = w3 at g3 g4
 have hnx3 : s3.nx = st1.nx + 1 := by rw [<- hs3e, <- hf1.nx]; rfl
 have hH3 : s3.H = z0u (z0u st1.H m (some (.raw (.map ens clock)))) st1.nx (some (.raw (.mapIter (some rm) clock #[] clock))) := by
  rw [<- hs3e, <- hf1.nx, <- hf1.H]; rfl
 have hmlt : m ≠ st1.nx := by rw [<- hf1.nx]; omega
 have h3m : s3.H m = some (.raw (.map ens clock)) := by rw [hH3]; simp [z0u, hmlt]
 have h3i : s3.H st1.nx = some (.raw (.mapIter (some rm) clock #[] clock)) := by rw [hH3]; simp [z0u]
 have k3m : s3.κ m = .map (some rm) := by
  rw [<- hs3e]
  simp only [RS.add, RS.set]
  rw [if_neg (by omega)]
  simpa using hκ
 have k3i : s3.κ st1.nx = .pointer (some ⟨w1.heap.size, 0, none⟩) := by
  rw [<- hs3e, <- hf1.nx]
  simp [RS.add, RS.set]
 have hst3 := (g1.trans g3)
 have hf3 : Fr P N (zpt st1 m t7 (.raw (.map ens clock)) (.raw (.mapIter (some rm) clock #[] clock))) s3 (a1.put o0.dst (.pointer (some ⟨w1.heap.size, 0, none⟩))) w3 := by
  have h := hf1.put hst3.later g4 d0 (d := .it st1.nx) (v := .pointer (some ⟨w1.heap.size, 0, none⟩)) (by
   simp only [rel]
   exact ⟨by rw [hnx3]; omega, ⟨_, rfl⟩, fun _ _ _ => k3i.symm⟩) hH3 hnx3
  rw [e0.2.1] at h
  rw [e0.2.1]
  exact h
 clear hs3e hw3e hrun
 have hs03 := hs01.trans hst3
 obtain ⟨I, hI1, hI2, hI3, hI4⟩ := hR (.raw (.map ens clock)) (fun l => .raw (.mapIter (some rm) clock (l.map fun i => (ens.toList.map (·.born)).getD i 0).toArray clock))
 refine wp_block (zg1 (fun n a w => ∃ l st s, I l st /\ Fr P N st s a w /\ Step s0 w0 s w /\ Step s3 w3 s w /\ l.Nodup /\ (∀ j ∈ l, j < es.length) /\ n = ((List.range es.length).filter fun j => !decide (j ∈ l)).length) ?_ _ _ _ ⟨[], _, s3, hI2, hf3, hs03, Step.refl _ _, by simp, by simp, rfl⟩)
 clear hf3
 rintro n a w ⟨l, st, s, hI, hf, hs, hs3, hnd, hlt, rfl⟩
 obtain ⟨q1, q2, q3⟩ := hI1 l st hI
 rw [<- hf.H] at q1 q2
 have keep : ∀ id q q', id < s3.nx -> s3.H id = some q -> z6z q = true -> s.H id = some q' -> s.κ id = s3.κ id := fun id q q' hid h1 h2 h3 => by
  have h := hs3.objs id hid
  rw [h1, h3] at h
  rcases z2q h2 h with h | ⟨_, _, _, h⟩
  ·cases h
  ·exact h
 have km : s.κ m = .map (some rm) := (keep m _ _ (by rw [hnx3]; have := hf1.nx; omega) h3m rfl q1).trans k3m
 have ki : s.κ st1.nx = .pointer (some ⟨w1.heap.size, 0, none⟩) := (keep _ _ _ (by rw [hnx3]; omega) h3i rfl q2).trans k3i
 obtain ⟨_, r1, hr1, hbm⟩ := hf.heap.obj m _ q1
 have er1 : r1 = rm := by
  rw [km] at hr1
  rcases hr1 with hr1 | hr1
  ·cases hr1
  ·cases hr1; rfl
 subst er1
 obtain ⟨_, r2, hr2, hbi⟩ := hf.heap.obj _ _ q2
 have er2 : r2 = w1.heap.size := by
  rw [ki] at hr2
  rcases hr2 with hr2 | hr2
  ·cases hr2; rfl
  ·cases hr2
 subst er2
 have hv7 : a.eval (.tmp t7) = .pointer (some ⟨w1.heap.size, 0, none⟩) := by
  have h := hf.ev (.tmp t7)
  simp only [St.ev, q3, rel] at h
  rw [h.2.2 _ q2 rfl, ki]
 have hseen : ∀ i (hi : i < ens.size), (l.map fun i => (ens.toList.map (·.born)).getD i 0).toArray.contains ens[i].born = decide (i ∈ l) := by
  intro i hi
  rw [Bool.eq_iff_iff, decide_eq_true_eq]
  simp only [List.contains_toArray, List.contains_iff_mem, List.mem_map]
  constructor
  ·rintro ⟨j, hj, he⟩
   have hjl : j < ens.size := by have := hlt j hj; rw [hlen] at this; simpa using this
   have e1 : (ens.toList.map (·.born)).getD j 0 = (ens.toList.map (·.born))[j]'(by simpa using hjl) := by simp [List.getD, hjl]
   have e2 : ens[i].born = (ens.toList.map (·.born))[i]'(by simpa using hi) := by simp
   rw [e1, e2] at he
   have := (List.getElem_inj hst.2).1 he
   rw [<- this]; exact hj
  ·intro h
   exact ⟨i, h, by simp [List.getD, hi]⟩
 refine wp_seq (wp_region_list ?_)
 rw [h1]
 rcases run_next_at (P := P) w o1.type w1.heap.size r1 clock clock (l.map fun i => (ens.toList.map (·.born)).getD i 0).toArray ens clock hbi hbm hst.1 (Nat.le_refl _) with ⟨h0, hrun⟩ | ⟨e, he, w', hw', hrun⟩
 ·-- all are done
  have hrun' : (execOp a.eval o1).run P w = .ok (.value (.tuple #[.bool false])) w := by
   unfold execOp
   rw [e1.1]
   simp [hv7, hrun]
  refine z71 hf e1.2.2 hrun' ?_
  have hf8 := hf.put0 d1 (d := .tup [.bool false]) (v := .tuple #[.bool false]) (by simp only [rel]; exact ⟨[.bool false], rfl, z08 (by simp [rel]) z0f⟩)
  have hp : z1p P own (znf ops1) [o2] (fun st' => st' = (st.put o1.dst (.tup [.bool false])).put o2.dst (.bool false)) (st.put o1.dst (.tup [.bool false])) :=
   zi3 e2.1 e2.2.2 (by rw [e1.2.1, put_t]) rfl
  refine z78 [o2] _ _ _ _ (fun o ho => by rw [List.mem_singleton] at ho; subst ho; exact d2) hp hf8 ?_
  ·intro st' s' a' w' hst' hf' hs'
   subst hst'
   show Exit.then _ _ .normal _ _
   unfold Exit.then
   simp only
   refine wp_seq (wp_cond_split (t := false) ?_ (fun h => by cases h) fun _ => wp_exit ?_)
   ·have h := hf'.ev (.tmp t9)
    rw [e2.2.1] at h
    simpa only [St.ev, put_t, rel] using h
   ·show Exit.inBlock b _ (.exit b) _ _
    unfold Exit.inBlock
    simp only [if_true]
    -- the map is a map again
    have hq1 : s'.H m = some (.raw (.map ens clock)) := by rw [hf'.H, zro, zro, <- hf.H]; exact q1
    have km' : s'.κ m = .map (some r1) := by
     have h := (hs3.trans hs').objs m (by rw [hnx3]; have := hf1.nx; omega)
     rw [h3m, hq1] at h
     rcases z2q rfl h with h | ⟨_, _, _, h⟩
     ·cases h
     ·rw [h, k3m]
    obtain ⟨_, r3, hr3, hbm3⟩ := hf'.heap.obj m _ hq1
    have er3 : r3 = r1 := by
     rw [km'] at hr3
     rcases hr3 with hr3 | hr3
     ·cases hr3
     ·cases hr3; rfl
    subst er3
    have hl := ((g1.trans g3).trans (hs3.trans hs')).later
    obtain ⟨u1, u2⟩ := RS.set_self (o' := .map es) hf'.heap hq1 rfl rfl (fun hl2 => ⟨r3, ens, clock, km', hbm3, relAll.later hl2 _ _ (relAll.later hl _ _ hk1), relAll.later hl2 _ _ (relAll.later hl _ _ hk2), hst⟩)
    refine ⟨zjy st m t8 t9 es, _, hI4 l st hI hnd hlt (fun i hi => ?_), ⟨?_, ?_, hf'.size, hf'.defers, fun i => rel.later u1.later _ _ ?_, u2⟩, (hs.trans hs').trans u1⟩
    ·have hi' : i < ens.size := by rw [hlen] at hi; simpa using hi
     have h2 := all_seen ens _ h0 ens[i] (by simp)
     rw [hseen i hi'] at h2
     simpa using h2
    ·rw [show (zjy st m t8 t9 es).H = z0u st.H m (some (.map es)) from rfl]
     rw [show (s'.set m (s'.κ m) (.map es)).H = z0u s'.H m (some (.map es)) from rfl, hf'.H, zro, zro]
    ·rw [show (zjy st m t8 t9 es).nx = st.nx from rfl]
     rw [show (s'.set m (s'.κ m) (.map es)).nx = s'.nx from rfl, hf'.nx, zoy, zoy]
    ·have h := hf'.tmps i
     rw [e1.2.1, e2.2.1] at h
     exact h
 ·-- one more
  obtain ⟨hem, hes⟩ := mem_left he
  obtain ⟨i, hi, hie⟩ := List.getElem_of_mem hem
  have hi' : i < ens.size := by simpa using hi
  have hie' : ens[i] = e := by simpa using hie
  have hil : i ∉ l := by
   have h := hseen i hi'
   rw [hie', hes] at h
   simpa using h.symm
  obtain ⟨k, v, hkv, rk, rv⟩ := hent i e (by rw [List.getElem?_eq_getElem hi, hie])
  have hl := ((g1.trans g3).trans hs3).later
  have rk := rel.later hl _ _ rk
  have rv := rel.later hl _ _ rv
  have hw1 : Step s w s w' /\ RH P s w' /\ w'.heap = w.heap := by
   rcases hw' with rfl | rfl
   ·exact ⟨Step.refl _ _, hf.heap, rfl⟩
   ·obtain ⟨x1, x2⟩ := z5v (w' := w.drew) hf.heap rfl rfl rfl rfl
    exact ⟨x1, x2, rfl⟩
  obtain ⟨x1, x2, x3⟩ := hw1
  have hbi' : w'.heap[w1.heap.size]? = some (.mapIter (some r1) clock (l.map fun i => (ens.toList.map (·.born)).getD i 0).toArray clock) := by rw [x3]; exact hbi
  have hset0 := MapKept.heap_set (o' := .mapIter (some r1) clock ((l.map fun i => (ens.toList.map (·.born)).getD i 0).toArray.push e.born) clock) hbi'
  have hset : (ChangeMaps.setBlock w' w1.heap.size (.mapIter (some r1) clock ((l.map fun i => (ens.toList.map (·.born)).getD i 0).toArray.push e.born) clock)).heap[w1.heap.size]? = some (.mapIter (some r1) clock ((l.map fun i => (ens.toList.map (·.born)).getD i 0).toArray.push e.born) clock) /\ ∀ q, q ≠ w1.heap.size -> (ChangeMaps.setBlock w' w1.heap.size (.mapIter (some r1) clock ((l.map fun i => (ens.toList.map (·.born)).getD i 0).toArray.push e.born) clock)).heap[q]? = w'.heap[q]? := hset0
  clear hset0
  have hpush : (l.map fun i => (ens.toList.map (·.born)).getD i 0).toArray.push e.born = ((l ++ [i]).map fun i => (ens.toList.map (·.born)).getD i 0).toArray := by
   rw [List.map_append, List.map_cons, List.map_nil, List.push_toArray]
   congr 2
   rw [<- hie']
   simp [List.getD, hi']
  have hri : w1.heap.size ≠ r1 := fun e => by rw [e, hbm] at hbi; cases hbi
  obtain ⟨u1, u2⟩ := z4i (w' := ChangeMaps.setBlock w' w1.heap.size (.mapIter (some r1) clock ((l.map fun i => (ens.toList.map (·.born)).getD i 0).toArray.push e.born) clock)) x2 st1.nx (.raw (.mapIter (some r1) clock (l.map fun i => (ens.toList.map (·.born)).getD i 0).toArray clock)) (.raw (.mapIter (some r1) clock ((l ++ [i]).map fun i => (ens.toList.map (·.born)).getD i 0).toArray clock)) (s.κ st1.nx) q2 rfl rfl rfl (by simp [ChangeMaps.setBlock])
   (fun q hq hne => hset.2 q (fun e => hne (by rw [ki, e]; rfl))) (.inr ⟨_, rfl, rfl, rfl⟩) (fun b hb => .inl hb) (fun _ => ⟨w1.heap.size, .inl ki, by rw [<- hpush]; exact hset.1⟩)
  have hrun' : (execOp a.eval o1).run P w = .ok (.value (.tuple #[.bool true, e.key, e.val])) (ChangeMaps.setBlock w' w1.heap.size (.mapIter (some r1) clock ((l.map fun i => (ens.toList.map (·.born)).getD i 0).toArray.push e.born) clock)) := by
   unfold execOp
   rw [e1.1]
   simp [hv7, hrun]
  refine z71 hf e1.2.2 hrun' ?_
  have hbm4 : (ChangeMaps.setBlock w' w1.heap.size (.mapIter (some r1) clock ((l.map fun i => (ens.toList.map (·.born)).getD i 0).toArray.push e.born) clock)).heap[r1]? = some (.map ens clock) := by
   rw [hset.2 r1 (fun e => hri e.symm), x3]; exact hbm
  have hbi4 := hset.1
  generalize ChangeMaps.setBlock w' w1.heap.size (.mapIter (some r1) clock ((l.map fun i => (ens.toList.map (·.born)).getD i 0).toArray.push e.born) clock) = w4 at u1 u2 hbm4 hbi4
  have hx4 := x1.trans u1
  have hf8 := hf.put hx4.later u2 d1 (d := .tup [.bool true, k, v]) (v := .tuple #[.bool true, e.key, e.val]) (by
   simp only [rel]
   exact ⟨[.bool true, e.key, e.val], rfl, z08 (by simp [rel]) (z08 (rel.later hx4.later _ _ rk) (z08 (rel.later hx4.later _ _ rv) z0f))⟩) (H := z0u st.H st1.nx (some (.raw (.mapIter (some r1) clock ((l ++ [i]).map fun i => (ens.toList.map (·.born)).getD i 0).toArray clock)))) (nx := st.nx) (by rw [<- hf.H]; rfl) (by rw [<- hf.nx]; rfl)
  have hev8 : (a.put o1.dst (.tuple #[.bool true, e.key, e.val])).eval (.tmp t8) = .tuple #[.bool true, e.key, e.val] := by
   rw [e1.2.1]
   exact zcs (by rw [hf.size]; exact n8)
  have hrun2 : (execOp (a.put o1.dst (.tuple #[.bool true, e.key, e.val])).eval o2).run P w4 = .ok (.value (.bool true)) w4 := by
   unfold execOp
   rw [e2.1]
   simp [hev8, Instr.extract]
  refine z71 hf8 e2.2.2 hrun2 ?_
  have hf9 := hf8.put0 d2 (d := .bool true) (v := .bool true) (by simp [rel])
  show Exit.then _ _ .normal _ _
  unfold Exit.then
  simp only
  refine wp_seq (wp_cond_split (t := true) ?_ (fun _ => wp_skip ?_) fun h => by cases h)
  ·rw [e2.2.1]
   exact zcs (by have h := hf8.size; rw [h]; exact n9)
  show Exit.then _ _ .normal _ _
  unfold Exit.then
  simp only
  refine wp_block (wp_seq (wp_region_list ?_))
  rw [h4]
  have hev7 : ((a.put o1.dst (.tuple #[.bool true, e.key, e.val])).put o2.dst (.bool true)).eval (.tmp t7) = .pointer (some ⟨w1.heap.size, 0, none⟩) := by
   rw [e1.2.1, e2.2.1, zai n79, zai n78]
   exact hv7
  have hrun4 : (execOp ((a.put o1.dst (.tuple #[.bool true, e.key, e.val])).put o2.dst (.bool true)).eval o4).run P w4 = .ok (.value (.tuple #[e.key, e.val])) w4 := by
   unfold execOp
   rw [e4.1]
   simp [hev7, run_entry_at (P := P) w4 w1.heap.size r1 clock (l.map fun i => (ens.toList.map (·.born)).getD i 0).toArray ens clock e hbi4 hbm4 hem hst.2]
  refine z71 hf9 e4.2.2 hrun4 ?_
  have hf10 := hf9.put0 d4 (d := .tup [k, v]) (v := .tuple #[e.key, e.val]) (by
   simp only [rel]
   exact ⟨[e.key, e.val], rfl, z08 (rel.later hx4.later _ _ rk) (z08 (rel.later hx4.later _ _ rv) z0f)⟩)
  have hst10 : ((((st.withH (z0u st.H st1.nx (some (.raw (.mapIter (some r1) clock ((l ++ [i]).map fun i => (ens.toList.map (·.born)).getD i 0).toArray clock)))) st.nx).put o1.dst (.tup [.bool true, k, v])).put o2.dst (.bool true)).put o4.dst (.tup [k, v])) = zpu st st1.nx t8 t9 t10 (.raw (.mapIter (some r1) clock ((l ++ [i]).map fun i => (ens.toList.map (·.born)).getD i 0).toArray clock)) k v := by
   rw [e1.2.1, e2.2.1, e4.2.1]; rfl
  have hbody := hI3 l st i k v hI hnd hlt hil hkv
  rw [<- hst10] at hbody
  have hil2 : i < es.length := by rw [hlen]; exact hi
  refine z78 rest4 _ _ _ _ hd4 hbody hf10 ?_
  intro st' s' a' w5 hst' hf' hs'
  show Exit.then _ _ .normal _ _
  unfold Exit.then
  simp only
  refine wp_mono (z4a hm0 body _ st' s' a' w5 hb hst' hf' ((hs3.trans hx4).trans hs')) ?_
  rintro ex a6 w6 ⟨st6, s6, hq, hf6, hs6⟩
  have done : I (l ++ [i]) st6 -> ∃ m_1, m_1 < ((List.range es.length).filter fun j => !decide (j ∈ l)).length /\ ∃ l st s, I l st /\ Fr P N st s a6 w6 /\ Step s0 w0 s w6 /\ Step s3 w3 s w6 /\ l.Nodup /\ (∀ j ∈ l, j < es.length) /\ m_1 = ((List.range es.length).filter fun j => !decide (j ∈ l)).length := by
   intro hI6
   refine ⟨_, ?_, l ++ [i], st6, s6, hI6, hf6, hs03.trans hs6, hs6, ?_, ?_, rfl⟩
   ·refine filter_lt (fun j => !decide (j ∈ l)) (fun j => !decide (j ∈ l ++ [i])) (fun j hj => ?_) i (by simp [hil]) (by simp) (List.range es.length) (List.mem_range.2 hil2)
    simp only [Bool.not_eq_true', decide_eq_false_iff_not, List.mem_append, not_or] at hj ⊢
    exact hj.1
   ·rw [List.nodup_append]
    exact ⟨hnd, by simp, fun a ha b hb e => by rw [List.mem_singleton] at hb; subst hb; subst e; exact hil ha⟩
   ·intro j hj
    rcases List.mem_append.1 hj with hj | hj
    ·exact hlt j hj
    ·rw [List.mem_singleton] at hj; subst hj; exact hil2
  cases ex with
  | normal => exact done hq
  | exit id =>
   obtain ⟨rfl, hq⟩ := hq
   show Exit.inBlock id _ (.exit id) _ _
   unfold Exit.inBlock
   simp only [if_true]
   exact done hq
  | ret => exact ⟨st6, s6, hq, hf6, hs03.trans hs6⟩
  | goto l => exact hq.elim
  | panic ch => exact hq.elim
  | outgrown => exact hq.elim
end
end Go.Proofs.YtfechgagcgbldaaDoor.Abs
namespace Go.Proofs.YtfechgagcgbldaaDoor.Abs
open Go.RowKit
variable {P : Program}
inductive OT where
 | run (l : List Nat)
 | fork (l : List Nat) (a b : OT)
def OT.pre (l : List Nat) : OT -> OT
 | .run m => .run (l ++ m)
 | .fork m a b => .fork (l ++ m) a b
def OT.isDone : OT -> Bool
 | .run [] => true
 | _ => false
def zcm (P : Program) (own : List Nat) (ops : Array Oper) (K : St -> Prop) : OT -> St -> Prop
 | .run l, st => z6a P own ops K l st
 | .fork l a b, st => z6a P own ops (fun st => zcm P own ops K a st /\ zcm P own ops K b st) l st
def zw7 (cm : Nat -> Nat -> Bool) (i : Nat) : List Nat -> Option (List Nat)
 | [] => none
 | j :: l => if j == i then some l else if cm j i then (zw7 cm i l).map (j :: ·) else none
def zs6 (cm : Nat -> Nat -> Bool) (i : Nat) : OT -> Option OT
 | .run l => (zw7 cm i l).map .run
 | .fork l a b => if l.contains i then (zw7 cm i l).map fun m => .fork m a b else
   if l.all (fun j => cm j i) then (match zs6 cm i a, zs6 cm i b with
    | some t, none => some (t.pre l)
    | none, some t => some (t.pre l)
    | _, _ => none) else none
def zlw (cm : Nat -> Nat -> Bool) (ops : Array Oper) : Nat -> Array Bool -> OT -> Bool
 | 0, listed, t => (Region.ready .any ops listed).isEmpty && t.isDone
 | n + 1, listed, t => if (Region.ready .any ops listed).isEmpty then t.isDone else (Region.ready .any ops listed).all fun i => match zs6 cm i t with
  | some t' => decide (i < ops.size) && zlw cm ops n (listed.setIfInBounds i true) t'
  | none => false
section
variable {own : List Nat} {ops : Array Oper} {K : St -> Prop} {cm : Nat -> Nat -> Bool}
theorem zcn {i : Nat} : ∀ {l m : List Nat}, zw7 cm i l = some m -> ∃ r1 r2, l = r1 ++ i :: r2 /\ m = r1 ++ r2 /\ ∀ j ∈ r1, cm j i = true
 | [], m, h => by cases h
 | j :: l, m, h => by
  unfold zw7 at h
  split at h
  ·rename_i he
   rw [beq_iff_eq] at he
   subst he
   cases h
   exact ⟨[], l, rfl, rfl, fun j hj => by cases hj⟩
  ·split at h
   ·rename_i hc
    simp only [Option.map_eq_some_iff] at h
    obtain ⟨m', hm, rfl⟩ := h
    obtain ⟨r1, r2, rfl, rfl, h3⟩ := zcn hm
    refine ⟨j :: r1, r2, rfl, rfl, fun k O => ?_⟩
    rcases List.mem_cons.1 O with rfl | O
    ·exact hc
    ·exact h3 k O
   ·cases h
theorem zzn (l : List Nat) (t : OT) (st : St) : zcm P own ops K (t.pre l) st = z6a P own ops (zcm P own ops K t) l st := by
 cases t with
 | run m => unfold OT.pre; unfold zcm; rw [z2y]; congr 1
 | fork m a b => unfold OT.pre; unfold zcm; rw [z2y]; congr 1
def zdc (P : Program) (own : List Nat) (ops : Array Oper) (x y : Oper) : Prop := ∀ (st : St) (dx dy : D) (H1 H2 : HM) (n1 n2 : Nat), z0k P own ops x st dx H1 n1 -> z0k P own ops y (st.next x dx H1 n1) dy H2 n2 ->
  ∃ H3 n3, z0k P own ops y st dy H3 n3 /\ z0k P own ops x (st.next y dy H3 n3) dx H2 n2 /\ (st.next x dx H1 n1).next y dy H2 n2 = (st.next y dy H3 n3).next x dx H2 n2
def isMk (o : Oper) : Bool := match o.op with
 | .makeMap _ none => true
 | _ => false
def zzo (own : List Nat) (ops : Array Oper) (x y : Oper) : Bool := x.apart ops y && ((z7a own x && isMk y) || (isMk x && z7a own y))
theorem zph {x : Oper} {st : St} {d : D} {H : HM} {nx : Nat} (O : isMk x = true) (h : z0k P own ops x st d H nx) : z9h st H nx := by
 unfold isMk at O
 split at O
 ·rename_i t hop
  unfold z0k at h
  rcases h with ⟨hg, ⟨f, args, tys, g, cap, hop2, _⟩ | hs⟩ | ⟨hg, h1, h2, h3⟩
  ·rw [hop] at hop2; cases hop2
  ·have h0 := hs.1
   unfold opR at h0
   simp only [hop, Option.map_eq_some_iff, Prod.mk.injEq] at h0
   obtain ⟨_, _, _, rfl, rfl⟩ := h0
   exact zfz st (by intro e cs h; cases h)
  ·subst h2; subst h3; exact z4p st
 ·cases O
theorem zw8 {x y : Oper} (hp : zzo own ops x y = true) : zdc P own ops x y := by
 intro st dx dy H1 H2 n1 n2 hx hy
 simp only [zzo, Bool.and_eq_true, Bool.or_eq_true] at hp
 obtain ⟨hap, hc⟩ := hp
 obtain ⟨ha1, ha2, ha3⟩ := Oper.apart_spec hap
 have ty : ∀ t ∈ y.looksAt ops, (st.next x dx H1 n1).t t = st.t t := fun t ht => z9c (fun e => ha1 t e ht)
 have tx : ∀ H n t, t ∈ x.looksAt ops -> st.t t = (st.next y dy H n).t t := fun H n t ht => (z9c (fun e => ha3 t e ht)).symm
 have hcomm := fun H3 n3 => zle (st := st) (x := x) (y := y) (dx := dx) (dy := dy) (H1 := H1) (H2 := H3) (H3 := H2) (n1 := n1) (n2 := n3) (n3 := n2) ha2
 rcases hc with ⟨hl, O⟩ | ⟨O, hl⟩
 ·obtain ⟨rfl, rfl⟩ := z2m (by rw [z7b hl]; omega) hx
  have hy' : z0k P own ops y st dy H2 n2 := z0c ty (z1w ..) (z13 ..) hy
  have hs := zph O hy'
  refine ⟨H2, n2, hy', ?_, hcomm _ _⟩
  exact z0c (st := st.withH H2 n2) (fun t ht => tx _ _ t ht) (z1w ..).symm (z13 ..).symm ((z6l hl hs).1 hx)
 ·have hs := zph O hx
  obtain ⟨h1, h2⟩ := z2m (by rw [z7b hl]; omega) hy
  rw [z1w] at h1; rw [z13] at h2
  subst h1; subst h2
  have hy' : z0k P own ops y (st.withH H2 n2) dy H2 n2 := z0c ty (z1w ..) (z13 ..) hy
  refine ⟨st.H, st.nx, (z6l hl hs).2 hy', ?_, hcomm _ _⟩
  exact z0c (fun t ht => tx _ _ t ht) (z1w ..).symm (z13 ..).symm hx
theorem zjh {i : Nat} {oi : Oper} (hi : ops[i]? = some oi) : ∀ (r1 r2 : List Nat) (st : St),
  (∀ j ∈ r1, ∀ oj, ops[j]? = some oj -> zdc P own ops oj oi) -> z6a P own ops K (r1 ++ i :: r2) st -> z6a P own ops K (i :: (r1 ++ r2)) st
 | [], r2, st, _, h => h
 | j :: r1, r2, st, hp, h => by
  simp only [List.cons_append, z6a] at h
  obtain ⟨oj, dj, Hj, nj, hoj, hsj, h⟩ := h
  have h' := zjh hi r1 r2 _ (fun k O => hp k (List.mem_cons_of_mem _ O)) h
  simp only [z6a] at h'
  obtain ⟨o', di, Hi, ni, hoi, hsi, h'⟩ := h'
  rw [hi] at hoi
  cases hoi
  obtain ⟨H3, n3, h1, h2, h3⟩ := hp j (by simp) oj hoj _ _ _ _ _ _ _ hsj hsi
  simp only [List.cons_append, z6a]
  exact ⟨oi, di, H3, n3, hi, h1, oj, dj, Hi, ni, hoj, h2, by rw [<- h3]; exact h'⟩
theorem pullKS {K1 K2 : St -> Prop} {i : Nat} {oi : Oper} (hi : ops[i]? = some oi) (r : List Nat) (st : St)
  (hp : ∀ j ∈ r, ∀ oj, ops[j]? = some oj -> zdc P own ops oj oi) (O : ∀ st, K1 st -> z6a P own ops K2 [i] st) (h : z6a P own ops K1 r st) : z6a P own ops K2 (i :: r) st := by
 have h1 := z50 O r st h
 rw [<- z2y] at h1
 have := zjh hi r [] st hp h1
 rwa [List.append_nil] at this
theorem zaa (hcm : ∀ j i oj oi, cm j i = true -> ops[j]? = some oj -> ops[i]? = some oi -> zdc P own ops oj oi) {i : Nat} {oi : Oper} (hi : ops[i]? = some oi) :
  ∀ (t t' : OT) (st : St), zs6 cm i t = some t' -> zcm P own ops K t st -> z6a P own ops (zcm P own ops K t') [i] st
 | .run l, t', st, h, hr => by
  simp only [zs6, Option.map_eq_some_iff] at h
  obtain ⟨m, hm, rfl⟩ := h
  obtain ⟨r1, r2, rfl, rfl, h3⟩ := zcn hm
  exact zjh hi r1 r2 st (fun j hj oj hoj => hcm j i oj oi (h3 j hj) hoj hi) hr
 | .fork l a b, t', st, h, hr => by
  unfold zs6 at h
  split at h
  ·simp only [Option.map_eq_some_iff] at h
   obtain ⟨m, hm, rfl⟩ := h
   obtain ⟨r1, r2, rfl, rfl, h3⟩ := zcn hm
   exact zjh hi r1 r2 st (fun j hj oj hoj => hcm j i oj oi (h3 j hj) hoj hi) hr
  ·split at h
   ·rename_i hall
    have hp : ∀ j ∈ l, ∀ oj, ops[j]? = some oj -> zdc P own ops oj oi := fun j hj oj hoj => hcm j i oj oi (List.all_eq_true.1 hall j hj) hoj hi
    have go : ∀ t : OT, (∀ st, (zcm P own ops K a st /\ zcm P own ops K b st) -> z6a P own ops (zcm P own ops K t) [i] st) -> z6a P own ops (zcm P own ops K (t.pre l)) [i] st := by
     intro t ht
     have h1 := pullKS hi l st hp ht hr
     have e : zcm P own ops K (t.pre l) = z6a P own ops (zcm P own ops K t) l := funext fun st => zzn l t st
     rw [e]
     exact h1
    split at h
    ·rename_i t h1 h2
     cases h
     exact go t fun st hh => zaa hcm hi a t st h1 hh.1
    ·rename_i t h1 h2
     cases h
     exact go t fun st hh => zaa hcm hi b t st h2 hh.2
    ·cases h
   ·cases h
theorem zzp {N : Nat} {Q : Exit -> Act -> World -> Prop} (hcm : ∀ j i oj oi, cm j i = true -> ops[j]? = some oj -> ops[i]? = some oi -> zdc P own ops oj oi) (hdst : ∀ (i : Nat) o, ops[i]? = some o -> z36 N o = true) :
  ∀ (fuel : Nat) (listed : Array Bool) (t : OT) (st : St) (s : RS) (a : Act) (w : World), zlw cm ops fuel listed t = true -> zcm P own ops K t st -> Fr P N st s a w ->
  (∀ st' s' a' w', K st' -> Fr P N st' s' a' w' -> Step s w s' w' -> Q .normal a' w') -> wpAny P .any ops Q fuel listed a w := by
 have hend : ∀ (t : OT) (st : St), t.isDone = true -> zcm P own ops K t st -> K st := fun t st h hr => by
  cases t with
  | run l => cases l with
   | nil => exact hr
   | cons i l => cases h
  | fork l a b => cases h
 intro fuel
 induction fuel with
 | zero =>
  intro listed t st s a w hc hr hf O
  simp only [zlw, Bool.and_eq_true, List.isEmpty_iff] at hc
  exact ⟨hc.1, O st s a w (hend t st hc.2 hr) hf (Step.refl s w)⟩
 | succ fuel ih =>
  intro listed t st s a w hc hr hf O
  unfold zlw at hc
  refine ⟨fun h0 => ?_, fun i hi => ?_⟩
  ·rw [if_pos (by rw [h0]; rfl)] at hc
   exact O st s a w (hend t st hc hr) hf (Step.refl s w)
  ·rw [if_neg (by intro e; rw [List.isEmpty_iff] at e; rw [e] at hi; cases hi)] at hc
   have h1 := List.all_eq_true.1 hc i hi
   split at h1
   ·rename_i t' ht
    simp only [Bool.and_eq_true, decide_eq_true_eq] at h1
    have hoi := Array.getElem?_eq_getElem h1.1
    obtain ⟨o, d, H, nx, ho, hstep, hrest⟩ := zaa hcm hoi t t' st ht hr
    exact z3s ho (hdst i o ho) hf hstep fun s' a' w' hf' hs' => ih _ t' _ s' a' w' h1.2 hrest hf' fun st2 s2 a2 w2 hK2 hf2 hs2 => O st2 s2 a2 w2 hK2 hf2 (hs'.trans hs2)
   ·cases h1
def cmL (cs : List (Nat × Nat)) (j i : Nat) : Bool := cs.any fun p => p.1 == j && p.2 == i
def cmOK (own : List Nat) (ops : Array Oper) (cs : List (Nat × Nat)) : Bool := cs.all fun p => match ops[p.1]?, ops[p.2]? with
 | some x, some y => z9r own ops x y || zzo own ops x y
 | _, _ => true
theorem cm_ok {cs : List (Nat × Nat)} (h : cmOK own ops cs = true) : ∀ j i oj oi, cmL cs j i = true -> ops[j]? = some oj -> ops[i]? = some oi -> zdc P own ops oj oi := by
 intro j i oj oi hc hj hi
 obtain ⟨p, hp, hpe⟩ := List.any_eq_true.1 hc
 simp only [Bool.and_eq_true, beq_iff_eq] at hpe
 have h1 := List.all_eq_true.1 h p hp
 rw [hpe.1, hpe.2, hj, hi] at h1
 simp only [Bool.or_eq_true] at h1
 rcases h1 with h1 | h1
 ·exact fun st dx dy H1 H2 n1 n2 hx hy => swap h1 hx hy
 ·exact zw8 h1
theorem zzq {N id : Nat} {Q : Exit -> St -> Prop} {st : St} (hm : P.follows .mixedOrders = true) (hdst : ∀ o ∈ ops.toList, z36 N o = true) (cs : List (Nat × Nat)) (t : OT) (hcs : cmOK own ops cs = true)
  (hcov : zlw (cmL cs) ops ops.size (Array.replicate ops.size false) t = true) (h : zcm P own ops (Q .normal) t st) : Sem P N (.region id ops true) Q st := by
 intro s0 w0 s a w hf hs
 obtain ⟨hds, hdr⟩ := z5v (w' := { w with drawn := w.drawn + 1 }) hf.heap rfl rfl rfl rfl
 have hf' : Fr P N st s a { w with drawn := w.drawn + 1 } := ⟨hf.H, hf.nx, hf.size, hf.defers, hf.tmps, hdr⟩
 have hdst2 : ∀ (i : Nat) o, ops[i]? = some o -> z36 N o = true := fun i o ho => hdst o (by
  obtain ⟨h1, h2⟩ := (Array.getElem?_eq_some_iff.1 ho)
  rw [<- h2]; exact (Array.mem_toList_iff.2 (Array.getElem_mem h1)))
 exact wp_region_any hm (zzp (Q := lift P N s0 w0 Q) (cm_ok hcs) hdst2 ops.size _ t st s a _ hcov h hf' fun st' s' a' w' hK hf2 hs2 => ⟨st', s', hK, hf2, hs.trans (hds.trans hs2)⟩)
theorem zzr {l : List Nat} {os : List Oper} {st : St} (hl : l.map (fun k => ops[k]?) = os.map some) (h : z2o P own (znf ops) os K st) : zcm P own ops K (.run l) st := z65 os l st hl h
theorem zw9 {l : List Nat} {os : List Oper} {a b : OT} {st : St} (hl : l.map (fun k => ops[k]?) = os.map some) (h : z2o P own (znf ops) os (fun st => zcm P own ops K a st /\ zcm P own ops K b st) st) : zcm P own ops K (.fork l a b) st := z65 os l st hl h
end
end Go.Proofs.YtfechgagcgbldaaDoor.Abs
namespace Go.Proofs.YtfechgagcgbldaaDoor.Abs
open Go.RowKit
variable {P : Program}
def dirDep (ops : Array Oper) (j i : Nat) : Bool := match ops[i]? with
 | some o => o.after.toList.any fun e => Region.binds .any e && e.on == j
 | none => false
def okP (own : List Nat) (ops : Array Oper) (j i : Nat) : Bool := dirDep ops j i || match ops[j]?, ops[i]? with
 | some x, some y => z9r own ops x y || zzo own ops x y
 | _, _ => false
def pwB (p : Nat -> Nat -> Bool) : List Nat -> Bool
 | [] => true
 | i :: l => l.all (fun k => p i k) && pwB p l
theorem z6o {p : Nat -> Nat -> Bool} : ∀ {l : List Nat}, pwB p l = true -> l.Pairwise fun j i => p j i = true
 | [], _ => List.Pairwise.nil
 | i :: l, h => by
  simp only [pwB, Bool.and_eq_true, List.all_eq_true] at h
  exact List.pairwise_cons.2 ⟨h.1, z6o h.2⟩
def za9 (ops : Array Oper) : Bool := (List.range ops.size).all fun i => match ops[i]? with
 | some o => o.after.toList.all fun e => !Region.binds .any e || decide (e.on < i)
 | none => true
section
variable {own : List Nat} {ops : Array Oper} {K : St -> Prop}
theorem zbo {j i : Nat} {oj oi : Oper} (h : okP own ops j i = true) (V : dirDep ops j i = false) (hj : ops[j]? = some oj) (hi : ops[i]? = some oi) : zdc P own ops oj oi := by
 unfold okP at h
 rw [V, hj, hi] at h
 simp only [Bool.false_or, Bool.or_eq_true] at h
 rcases h with h | h
 ·exact fun st dx dy H1 H2 n1 n2 hx hy => swap h hx hy
 ·exact zw8 h
theorem z3z {listed : Array Bool} {i : Nat} : i ∈ Region.ready .any ops listed ↔ i < ops.size /\ listed.getD i true = false /\ ∀ o, ops[i]? = some o -> ∀ e ∈ o.after.toList, Region.binds .any e = true -> listed.getD e.on false = true := by
 simp only [Region.ready, List.mem_filter, List.mem_range, Bool.and_eq_true, Bool.not_eq_true']
 constructor
 ·rintro ⟨h1, h2, h3⟩
  refine ⟨h1, h2, fun o ho e he hb => ?_⟩
  rw [ho] at h3
  simp only [Option.map_some, Option.getD_some, Array.all_eq_true'] at h3
  have := h3 e (by simpa using he)
  simpa [hb] using this
 ·rintro ⟨h1, h2, h3⟩
  refine ⟨h1, h2, ?_⟩
  rw [Array.getElem?_eq_getElem h1]
  simp only [Option.map_some, Option.getD_some, Array.all_eq_true']
  intro e he
  cases hb : Region.binds .any e with
  | false => rfl
  | true => simp only [Bool.not_true, Bool.false_or]; exact h3 _ (Array.getElem?_eq_getElem h1) e (by simpa using he) hb
theorem zhs {listed : Array Bool} {j : Nat} (h1 : listed.getD j true = false) (h2 : listed.getD j false = true) : False := by
 simp only [Array.getD_eq_getD_getElem?] at h1 h2
 cases h : listed[j]? with
 | none => rw [h] at h2; cases h2
 | some b => rw [h] at h1 h2; simp only [Option.getD_some] at h1 h2; rw [h1] at h2; cases h2
theorem z3b {listed : Array Bool} {j i : Nat} (hi : i ∈ Region.ready .any ops listed) (hj : listed.getD j true = false) : dirDep ops j i = false := by
 obtain ⟨h1, h2, h3⟩ := z3z.1 hi
 cases V : dirDep ops j i with
 | false => rfl
 | true =>
  unfold dirDep at V
  split at V
  ·rename_i o ho
   obtain ⟨e, he, hb⟩ := List.any_eq_true.1 V
   simp only [z06] at hb
   have := h3 o ho e he hb.1
   rw [hb.2] at this
   exact (zhs hj this).elim
  ·cases V
theorem z7f {listed : Array Bool} (hsz : listed.size = ops.size) (hlow : za9 ops = true) (hr : Region.ready .any ops listed = []) : ∀ n, n < ops.size -> listed.getD n true = false -> False := by
 intro n
 induction n using Nat.strongRecOn with
 | _ n ih =>
  intro hn hl
  have hm : n ∉ Region.ready .any ops listed := by rw [hr]; exact List.not_mem_nil
  refine hm (z3z.2 ⟨hn, hl, fun o ho e he hb => ?_⟩)
  have h1 := List.all_eq_true.1 hlow n (by simpa using hn)
  rw [ho] at h1
  have h2 := List.all_eq_true.1 h1 e he
  rw [hb] at h2
  simp only [Bool.not_true, Bool.false_or, decide_eq_true_eq] at h2
  cases h3 : listed.getD e.on false with
  | true => rfl
  | false =>
   refine (ih e.on h2 (by omega) ?_).elim
   simp only [Array.getD_eq_getD_getElem?] at h3 ⊢
   rw [Array.getElem?_eq_getElem (by omega)] at h3 ⊢
   simpa using h3
def Rest (ops : Array Oper) (listed : Array Bool) (L : List Nat) : Prop := L.Nodup /\ ∀ i, i ∈ L ↔ i < ops.size /\ listed.getD i true = false
theorem Rest.step {listed : Array Bool} {r1 r2 : List Nat} {i : Nat} (h : Rest ops listed (r1 ++ i :: r2)) : Rest ops (listed.setIfInBounds i true) (r1 ++ r2) := by
 obtain ⟨hn, hm⟩ := h
 have hp : (r1 ++ i :: r2).Perm (i :: (r1 ++ r2)) := List.perm_middle
 have hn2 := hp.nodup_iff.1 hn
 rw [List.nodup_cons] at hn2
 refine ⟨hn2.2, fun k => ?_⟩
 rw [z2d, Bool.or_eq_false_iff]
 have h1 := hm k
 rw [hp.mem_iff, List.mem_cons] at h1
 constructor
 ·intro O
  obtain ⟨g1, g2⟩ := h1.1 (.inr O)
  exact ⟨g1, g2, by simp only [beq_eq_false_iff_ne]; rintro rfl; exact hn2.1 O⟩
 ·rintro ⟨g1, g2, g3⟩
  rcases h1.2 ⟨g1, g2⟩ with rfl | O
  ·simp at g3
  ·exact O
theorem zje {N : Nat} {Q : Exit -> Act -> World -> Prop} (hlow : za9 ops = true) (hdst : ∀ (i : Nat) o, ops[i]? = some o -> z36 N o = true) :
  ∀ (fuel : Nat) (L : List Nat) (listed : Array Bool) (st : St) (s : RS) (a : Act) (w : World), L.length <= fuel -> listed.size = ops.size -> Rest ops listed L -> (L.Pairwise fun j i => okP own ops j i = true) -> z6a P own ops K L st -> Fr P N st s a w ->
  (∀ st' s' a' w', K st' -> Fr P N st' s' a' w' -> Step s w s' w' -> Q .normal a' w') -> wpAny P .any ops Q fuel listed a w := by
 have hend : ∀ {L : List Nat} {listed : Array Bool}, listed.size = ops.size -> Rest ops listed L -> Region.ready .any ops listed = [] -> L = [] := fun {L listed} hsz hR hr => by
  cases L with
  | nil => rfl
  | cons n L =>
   obtain ⟨h1, h2⟩ := (hR.2 n).1 (by simp)
   exact (z7f hsz hlow hr n h1 h2).elim
 intro fuel
 induction fuel with
 | zero =>
  intro L listed st s a w hl hsz hR hp hrun hf O
  have h0 : L = [] := List.eq_nil_of_length_eq_zero (by omega)
  subst h0
  refine ⟨?_, O st s a w hrun hf (Step.refl s w)⟩
  cases hr : Region.ready .any ops listed with
  | nil => rfl
  | cons i r =>
   obtain ⟨h1, h2, _⟩ := z3z.1 (show i ∈ Region.ready .any ops listed by rw [hr]; simp)
   have := (hR.2 i).2 ⟨h1, h2⟩
   cases this
 | succ fuel ih =>
  intro L listed st s a w hl hsz hR hp hrun hf O
  refine ⟨fun hr => ?_, fun i hi => ?_⟩
  ·have h0 := hend hsz hR hr
   subst h0
   exact O st s a w hrun hf (Step.refl s w)
  ·obtain ⟨h1, h2, _⟩ := z3z.1 hi
   have hoi := Array.getElem?_eq_getElem h1
   obtain ⟨r1, r2, rfl⟩ := List.append_of_mem ((hR.2 i).2 ⟨h1, h2⟩)
   have hpp := List.pairwise_append.1 hp
   have hun : ∀ j ∈ r1, listed.getD j true = false := fun j hj => ((hR.2 j).1 (by simp [hj])).2
   obtain ⟨o, d, H, nx, ho, hstep, hrest⟩ := zjh hoi r1 r2 st (fun j hj oj hoj => zbo (hpp.2.2 j hj i (by simp)) (z3b hi (hun j hj)) hoj hoi) hrun
   refine z3s ho (hdst i o ho) hf hstep fun s' a' w' hf' hs' => ih (r1 ++ r2) _ _ s' a' w' ?_ (by simpa using hsz) hR.step ?_ hrest hf' fun st2 s2 a2 w2 hK2 hf2 hs2 => O st2 s2 a2 w2 hK2 hf2 (hs'.trans hs2)
   ·simp only [List.length_append, List.length_cons] at hl ⊢; omega
   ·exact hp.sublist (List.Sublist.append (List.Sublist.refl _) (List.sublist_cons_self _ _))
theorem any_two {N : Nat} {Q : Exit -> Act -> World -> Prop} {a b : Nat} {s1 s2 : List Nat} (hlow : za9 ops = true) (hdst : ∀ (i : Nat) o, ops[i]? = some o -> z36 N o = true)
  (hs1 : ∀ i ∈ s1, i = b \/ dirDep ops a i = true \/ dirDep ops b i = true) (hb : b ∈ s1) (ha : a ∈ s2) :
  ∀ (fuel : Nat) (pre : List Nat) (listed : Array Bool) (st : St) (s : RS) (c : Act) (w : World), pre.length + s1.length + s2.length + 1 <= fuel + s2.length -> pre.length + s2.length + 1 <= fuel -> listed.size = ops.size -> Rest ops listed (pre ++ a :: s1) -> Rest ops listed (pre ++ b :: s2) ->
  ((pre ++ [a]).Pairwise fun j i => okP own ops j i = true) -> ((pre ++ [b]).Pairwise fun j i => okP own ops j i = true) -> ((pre ++ s1).Pairwise fun j i => okP own ops j i = true) -> ((pre ++ s2).Pairwise fun j i => okP own ops j i = true) ->
  z6a P own ops (fun st => z6a P own ops K (a :: s1) st /\ z6a P own ops K (b :: s2) st) pre st -> Fr P N st s c w ->
  (∀ st' s' a' w', K st' -> Fr P N st' s' a' w' -> Step s w s' w' -> Q .normal a' w') -> wpAny P .any ops Q fuel listed c w := by
 intro fuel
 induction fuel with
 | zero => intro pre listed st s c w h1 h2; omega
 | succ fuel ih =>
  intro pre listed st s c w hl1 hl2 hsz hR1 hR2 pa pb p1 p2 hrun hf O
  have hua : listed.getD a true = false := ((hR1.2 a).1 (by simp)).2
  have hub : listed.getD b true = false := ((hR2.2 b).1 (by simp)).2
  refine ⟨fun hr => ?_, fun i hi => ?_⟩
  ·exact (z7f hsz hlow hr a ((hR1.2 a).1 (by simp)).1 hua).elim
  ·obtain ⟨h1, h2, _⟩ := z3z.1 hi
   have hoi := Array.getElem?_eq_getElem h1
   have hun : ∀ j ∈ pre, listed.getD j true = false := fun j hj => ((hR1.2 j).1 (by simp [hj])).2
   have toB : i = b -> wpOp P ops Q i (wpAny P .any ops Q fuel (listed.setIfInBounds i true)) c w := fun hib => by
    subst hib
    have hpp := List.pairwise_append.1 pb
    have hrun2 : z6a P own ops K (pre ++ i :: s2) st := by
     rw [z2y]; exact z50 (fun _ h => h.2) _ _ hrun
    obtain ⟨o, d, H, nx, ho, hstep, hrest⟩ := zjh hoi pre s2 st (fun j hj oj hoj => zbo (hpp.2.2 j hj i (by simp)) (z3b hi (hun j hj)) hoj hoi) hrun2
    refine z3s ho (hdst i o ho) hf hstep fun s' a' w' hf' hs' => zje hlow hdst fuel (pre ++ s2) _ _ s' a' w' ?_ (by simpa using hsz) hR2.step p2 hrest hf' fun st2 s2 a2 w2 hK2 hf2 hs2 => O st2 s2 a2 w2 hK2 hf2 (hs'.trans hs2)
    simp only [List.length_append]; omega
   have hm := (hR1.2 i).2 ⟨h1, h2⟩
   rw [List.mem_append, List.mem_cons] at hm
   rcases hm with hm | rfl | hm
   ·obtain ⟨r1, r2, rfl⟩ := List.append_of_mem hm
    have hpp := List.pairwise_append.1 (List.pairwise_append.1 pa).1
    obtain ⟨o, d, H, nx, ho, hstep, hrest⟩ := zjh hoi r1 r2 st (fun j hj oj hoj => zbo (hpp.2.2 j hj i (by simp)) (z3b hi (hun j (by simp [hj]))) hoj hoi) hrun
    have sub : (r1 ++ r2).Sublist (r1 ++ i :: r2) := List.Sublist.append (List.Sublist.refl _) (List.sublist_cons_self _ _)
    have hR1' : Rest ops (listed.setIfInBounds i true) ((r1 ++ r2) ++ a :: s1) := by
     have h := hR1
     rw [List.append_assoc, List.cons_append] at h
     rw [List.append_assoc]; exact h.step
    have hR2' : Rest ops (listed.setIfInBounds i true) ((r1 ++ r2) ++ b :: s2) := by
     have h := hR2
     rw [List.append_assoc, List.cons_append] at h
     rw [List.append_assoc]; exact h.step
    refine z3s ho (hdst i o ho) hf hstep fun s' a' w' hf' hs' => ih (r1 ++ r2) _ _ s' a' w' ?_ ?_ (by simpa using hsz) hR1' hR2' (pa.sublist (List.Sublist.append sub (List.Sublist.refl _))) (pb.sublist (List.Sublist.append sub (List.Sublist.refl _))) (p1.sublist (List.Sublist.append sub (List.Sublist.refl _))) (p2.sublist (List.Sublist.append sub (List.Sublist.refl _))) hrest hf' fun st2 s2 a2 w2 hK2 hf2 hs2 => O st2 s2 a2 w2 hK2 hf2 (hs'.trans hs2)
    ·simp only [List.length_append, List.length_cons] at hl1 ⊢; omega
    ·simp only [List.length_append, List.length_cons] at hl2 ⊢; omega
   ·have hpp := List.pairwise_append.1 pa
    have hrun2 : z6a P own ops K (pre ++ i :: s1) st := by
     rw [z2y]; exact z50 (fun _ h => h.1) _ _ hrun
    obtain ⟨o, d, H, nx, ho, hstep, hrest⟩ := zjh hoi pre s1 st (fun j hj oj hoj => zbo (hpp.2.2 j hj i (by simp)) (z3b hi (hun j hj)) hoj hoi) hrun2
    refine z3s ho (hdst i o ho) hf hstep fun s' a' w' hf' hs' => zje hlow hdst fuel (pre ++ s1) _ _ s' a' w' ?_ (by simpa using hsz) hR1.step p1 hrest hf' fun st2 s2 a2 w2 hK2 hf2 hs2 => O st2 s2 a2 w2 hK2 hf2 (hs'.trans hs2)
    simp only [List.length_append]; omega
   ·rcases hs1 i hm with h | h | h
    ·exact toB h
    ·rw [z3b hi hua] at h; cases h
    ·rw [z3b hi hub] at h; cases h
def twoOK (own : List Nat) (ops : Array Oper) (pre : List Nat) (a b : Nat) (s1 s2 : List Nat) : Bool :=
 za9 ops && (s1.all fun i => i == b || dirDep ops a i || dirDep ops b i) && s1.contains b && s2.contains a &&
 pwB (okP own ops) (pre ++ [a]) && pwB (okP own ops) (pre ++ [b]) && pwB (okP own ops) (pre ++ s1) && pwB (okP own ops) (pre ++ s2) &&
 pwB (fun j i => j != i) (pre ++ a :: s1) && pwB (fun j i => j != i) (pre ++ b :: s2) &&
 ((pre ++ a :: s1).all fun i => decide (i < ops.size)) && ((pre ++ b :: s2).all fun i => decide (i < ops.size)) &&
 decide ((pre ++ a :: s1).length = ops.size) && decide ((pre ++ b :: s2).length = ops.size) && ((List.range ops.size).all fun i => (pre ++ a :: s1).contains i && (pre ++ b :: s2).contains i)
theorem sem_two {N id : Nat} {Q : Exit -> St -> Prop} {st : St} (hm : P.follows .mixedOrders = true) (hdst : ∀ o ∈ ops.toList, z36 N o = true) (pre : List Nat) (a b : Nat) (s1 s2 : List Nat) (hok : twoOK own ops pre a b s1 s2 = true)
  (h : zcm P own ops (Q .normal) (.fork pre (.run (a :: s1)) (.run (b :: s2))) st) : Sem P N (.region id ops true) Q st := by
 intro s0 w0 s c w hf hs
 obtain ⟨hds, hdr⟩ := z5v (w' := { w with drawn := w.drawn + 1 }) hf.heap rfl rfl rfl rfl
 have hf' : Fr P N st s c { w with drawn := w.drawn + 1 } := ⟨hf.H, hf.nx, hf.size, hf.defers, hf.tmps, hdr⟩
 have hdst2 : ∀ (i : Nat) o, ops[i]? = some o -> z36 N o = true := fun i o ho => hdst o (by
  obtain ⟨h1, h2⟩ := (Array.getElem?_eq_some_iff.1 ho)
  rw [<- h2]; exact (Array.mem_toList_iff.2 (Array.getElem_mem h1)))
 simp only [twoOK, Bool.and_eq_true, List.all_eq_true, Bool.or_eq_true, beq_iff_eq, decide_eq_true_eq, List.contains_iff_mem, List.mem_range] at hok
 obtain ⟨⟨⟨⟨⟨⟨⟨⟨⟨⟨⟨⟨⟨⟨k1, k2⟩, k3⟩, k4⟩, k5⟩, k6⟩, k7⟩, k8⟩, k9⟩, k10⟩, k11⟩, k12⟩, k13⟩, k14⟩, k15⟩ := hok
 have nd : ∀ {L : List Nat}, pwB (fun j i => j != i) L = true -> L.Nodup := fun h => (z6o h).imp fun h => by simpa using h
 have gl : ∀ i, i < ops.size -> (Array.replicate ops.size false).getD i true = false := fun i hi => by
  simp [Array.getD_eq_getD_getElem?, hi]
 have hR1 : Rest ops (Array.replicate ops.size false) (pre ++ a :: s1) := ⟨nd k9, fun i => ⟨fun hi => ⟨k11 i hi, gl i (k11 i hi)⟩, fun hi => (k15 i hi.1).1⟩⟩
 have hR2 : Rest ops (Array.replicate ops.size false) (pre ++ b :: s2) := ⟨nd k10, fun i => ⟨fun hi => ⟨k12 i hi, gl i (k12 i hi)⟩, fun hi => (k15 i hi.1).2⟩⟩
 simp only [List.length_append, List.length_cons] at k13 k14
 exact wp_region_any hm (any_two (Q := lift P N s0 w0 Q) k1 hdst2 (fun i hi => by rcases k2 i hi with (h | h) | h; (· exact .inl h); (· exact .inr (.inl h)); (· exact .inr (.inr h))) k3 k4 ops.size pre _ st s c _ (by omega) (by omega) (by simp) hR1 hR2 (z6o k5) (z6o k6) (z6o k7) (z6o k8) h hf' fun st' s' a' w' hK hf2 hs2 => ⟨st', s', hK, hf2, hs.trans (hds.trans hs2)⟩)
end
end Go.Proofs.YtfechgagcgbldaaDoor.Abs
namespace Go.Proofs.YtfechgagcgbldaaDoor.Abs
open Go.RowKit
variable {P : Program}
def zys (w : World) (mv : Value) (b j : Nat) : Prop := ∃ (r : Nat) (ens : Array MapEntry) (clock : Nat) (e : MapEntry), mv = .map (some r) /\ w.heap[r]? = some (.map ens clock) /\ ens[j]? = some e /\ e.born = b
def zoq (z key : D) (es : List (D × D)) : Option (Nat × D) -> List (D × D)
 | some _ => es
 | none => es ++ [(key, z)]
def zwl (es : List (D × D)) : Option (Nat × D) -> Nat
 | some (i, _) => i
 | none => es.length
set_option maxHeartbeats 2000000 in
theorem zn8 {s : RS} {w : World} (h : RH P s w) {T kt et : TypeId} (hmt : z3r P T = some (kt, et)) {id : Nat} {es : List (D × D)} {key : D} (hH : s.H id = some (.map es)) (hkt : zpo P kt = true) (hfit : z5c P kt key = true)
  {mv kv : Value} (hm : rel s (.mp id) mv) (O : rel s key kv) {z : D} (hz : zad P et = some z) {fd : Option (Nat × D)} (hf : z2a P kt key es = some fd) :
  ∃ (v : Value) (b : Nat) (s1 : RS) (w1 : World), (Instr.mapEntry T mv kv).run P w = .ok (.tuple #[v, goInt b]) w1 /\ Step s w s1 w1 /\ RH P s1 w1 /\ s1.H = z0u s.H id (some (.map (zoq z key es fd))) /\ s1.nx = s.nx /\ zys w1 mv b (zwl es fd) := by
 have hmt := z8f hmt
 obtain ⟨r, ens, clock, hκ, hheap, h1, h2, hst⟩ := zj6 h hH
 have hm' := hm
 simp only [rel] at hm
 have hmv := hm.2.2 _ hH rfl
 rw [hκ] at hmv; subst hmv
 have hck := z7y (w := w) hkt hfit O false
 obtain ⟨o, ho, hfo⟩ := z7x (w := w) hkt O hf h1 h2
 obtain ⟨zv, hzr, hzrel⟩ := zla hz
 cases fd with
 | none =>
  have hfo : o = none := hfo
  subst hfo
  obtain ⟨hs1, hs2⟩ := z9b (o' := .map (ens.push ⟨kv, zv, clock⟩) (clock + 1)) hheap
  obtain ⟨g1, g2⟩ := z4i (w' := { w with heap := w.heap.setIfInBounds r (.map (ens.push ⟨kv, zv, clock⟩) (clock + 1)) }) h id (.map es) (.map (es ++ [(key, z)])) (s.κ id) hH rfl rfl rfl (by simp)
   (fun k O hne => hs2 k (fun e => hne (by rw [hκ, e]; rfl))) (.inr ⟨_, rfl, rfl, rfl⟩) (fun b hb => .inl hb)
   (fun hl => ⟨r, _, clock + 1, hκ, hs1, relAll.later hl _ _ (by simpa using z1d h1 (z08 O z0f)), relAll.later hl _ _ (by simpa using z1d h2 (z08 (hzrel s) z0f)), zhg hst⟩)
  refine ⟨zv, clock, _, _, ?_, g1, g2, rfl, rfl, ⟨r, _, clock + 1, ⟨kv, zv, clock⟩, rfl, hs1, ?_, rfl⟩⟩
  ·simp [Instr.mapEntry, run_underlying hmt, MapKept.run_getObj_map hheap, hck, ho, hzr, MapKept.run_setObj_map _ hheap]
  ·have hl := z02 h1
   simp only [List.length_map, Array.length_toList] at hl
   show (ens.push ⟨kv, zv, clock⟩)[es.length]? = _
   rw [<- hl]; simp
 | some q =>
  obtain ⟨i, v⟩ := q
  obtain ⟨e, hei, rfl, _⟩ := hfo
  rw [Nat.zero_add] at ho
  have hei' : ens[i]? = some e := by simpa using hei
  obtain ⟨k', hk'1, hk'2⟩ := zfq hf
  have hrk' : rel s k' e.key := by
   obtain ⟨u, hu1, hu2⟩ := z1f h1 i k' hk'1
   rw [List.getElem?_map, hei, Option.map_some, Option.some.injEq] at hu1
   rw [hu1]; exact hu2
  obtain ⟨hsame, hbits⟩ := zov hkt hk'2 O hrk'
  have hkts : (Instr.keyThatStays e.key kv).run P w = .ok kv w := by
   rw [<- hsame]; simp [Instr.keyThatStays, hbits]
  have hmod : (ens.modify i fun e => { e with key := kv }) = ens := by
   apply Array.ext'
   rw [Array.toList_modify, Go.ChangeMaps.modify_eq_set _ _ _ _ hei]
   have : ({ e with key := kv } : MapEntry) = e := by rw [hsame]
   rw [this]
   exact WideElems.set_self _ _ _ hei
  obtain ⟨hs1, hs2⟩ := z9b (o' := .map ens clock) hheap
  obtain ⟨g1, g2⟩ := z4i (w' := { w with heap := w.heap.setIfInBounds r (.map ens clock) }) h id (.map es) (.map es) (s.κ id) hH rfl rfl rfl (by simp)
   (fun k O hne => hs2 k (fun e => hne (by rw [hκ, e]; rfl))) (.inr ⟨_, rfl, rfl, rfl⟩) (fun b hb => .inl hb)
   (fun hl => ⟨r, ens, clock, hκ, hs1, relAll.later hl _ _ h1, relAll.later hl _ _ h2, hst⟩)
  refine ⟨e.val, e.born, _, _, ?_, g1, g2, rfl, rfl, ⟨r, ens, clock, e, rfl, hs1, hei', rfl⟩⟩
  simp [Instr.mapEntry, run_underlying hmt, MapKept.run_getObj_map hheap, hck, ho, hei', hkts, hmod, MapKept.run_setObj_map _ hheap]
set_option maxHeartbeats 2000000 in
theorem zl1 {s : RS} {w : World} (h : RH P s w) {T : TypeId} {id : Nat} {es : List (D × D)} (hH : s.H id = some (.map es)) {mv xv : Value} (hm : rel s (.mp id) mv) {b j : Nat} (he : zys w mv b j) {x : D} (hx : rel s x xv) :
  ∃ s' w', (Instr.entryStore T mv (goInt b) xv).run P w = .ok () w' /\ Step s w s' w' /\ RH P s' w' /\ s'.H = z0u s.H id (some (.map (z3h es j x))) /\ s'.nx = s.nx := by
 obtain ⟨r, ens, clock, hκ, hheap, h1, h2, hst⟩ := zj6 h hH
 obtain ⟨r', ens', clock', e, rfl, hh', hej, rfl⟩ := he
 simp only [rel] at hm
 have hmv := hm.2.2 _ hH rfl
 rw [hκ] at hmv
 obtain rfl : r' = r := by simpa using hmv
 rw [hheap, Option.some.injEq, Obj.map.injEq] at hh'
 obtain ⟨rfl, rfl⟩ := hh'
 have hidx : ens.findIdx? (fun e' => ((e'.born : Nat) : Int) == ((e.born : Nat) : Int)) = some j := by
  rw [WideElems.findIdx_arr]; exact WideElems.findIdx_born hst.2 (by simpa using hej)
 have hborn : (ens.modify j fun e => { e with val := xv }).toList.map (·.born) = ens.toList.map (·.born) := by
  apply List.ext_getElem?
  intro n
  simp only [List.getElem?_map, Array.getElem?_toList, Array.getElem?_modify]
  by_cases hjn : j = n <;> cases ens[n]? <;> simp [hjn]
 have hst' : zhu (ens.modify j fun e => { e with val := xv }) clock := by
  refine ⟨fun y hy => ?_, by rw [hborn]; exact hst.2⟩
  have : y.born ∈ ens.toList.map (·.born) := by rw [<- hborn]; exact List.mem_map.2 ⟨y, hy, rfl⟩
  obtain ⟨u, hu, e⟩ := List.mem_map.1 this
  rw [<- e]; exact hst.1 u hu
 obtain ⟨hs1, hs2⟩ := z9b (o' := .map (ens.modify j fun e => { e with val := xv }) clock) hheap
 obtain ⟨g1, g2⟩ := z4i (w' := { w with heap := w.heap.setIfInBounds r' (.map (ens.modify j fun e => { e with val := xv }) clock) }) h id (.map es) (.map (z3h es j x)) (s.κ id) hH rfl rfl rfl (by simp)
  (fun k O hne => hs2 k (fun e => hne (by rw [hκ, e]; rfl))) (.inr ⟨_, rfl, rfl, rfl⟩) (fun b hb => .inl hb)
  (fun hl => ⟨r', _, clock, hκ, hs1, relAll.later hl _ _ (by
    rw [z39]
    have : (ens.modify j fun e => { e with val := xv }).toList.map (·.key) = ens.toList.map (·.key) := by
     apply List.ext_getElem?
     intro n
     simp only [List.getElem?_map, Array.getElem?_toList, Array.getElem?_modify]
     by_cases hjn : j = n <;> cases ens[n]? <;> simp [hjn]
    rw [this]; exact h1), relAll.later hl _ _ (by
    rw [za4]
    have : (ens.modify j fun e => { e with val := xv }).toList.map (·.val) = (ens.toList.map (·.val)).set j xv := by
     apply List.ext_getElem?
     intro n
     simp only [List.getElem?_map, Array.getElem?_toList, Array.getElem?_modify, List.getElem?_set, List.length_map, Array.length_toList]
     by_cases hij : j = n
     ·subst hij
      have hlt : j < ens.size := (Array.getElem?_eq_some_iff.1 hej).1
      simp [hej, hlt]
     ·simp [hij]
    rw [this]; exact zbu h2 j hx), hst'⟩)
 refine ⟨_, _, ?_, g1, g2, rfl, rfl⟩
 simp [Instr.entryStore, MapKept.run_getObj_map hheap, asInt, asIntOf, goInt, hidx, MapKept.run_setObj_map _ hheap]
end Go.Proofs.YtfechgagcgbldaaDoor.Abs
namespace Go.Proofs.YtfechgagcgbldaaDoor.Abs
open Go.RowKit
variable {P : Program}
section
variable {N : Nat} {ops : Array Oper} {Q : Exit -> Act -> World -> Prop}
theorem zec {i : Nat} {o : Oper} {a : Act} {w w' : World} {R : Act -> World -> Prop} {v : Value} (ho : ops[i]? = some o) (hg : o.guard = none) (hr : (execOp a.eval o).run P w = .ok (.value v) w') (O : R (a.put o.dst v) w') : wpOp P ops Q i R a w := by
 unfold wpOp
 rw [ho]
 simp only
 rw [if_pos (by unfold Region.wanted; rw [hg])]
 refine .inl ?_
 unfold Oper.wp
 rw [hr]; exact O
theorem op_skip {i : Nat} {o : Oper} {a : Act} {w w' : World} {R : Act -> World -> Prop} (ho : ops[i]? = some o) (hg : o.guard = none) (hr : (execOp a.eval o).run P w = .ok .skip w') (O : R (a.put o.dst undef) w') : wpOp P ops Q i R a w := by
 unfold wpOp
 rw [ho]
 simp only
 rw [if_pos (by unfold Region.wanted; rw [hg])]
 refine .inl ?_
 unfold Oper.wp
 rw [hr]; exact O
theorem z7h {a : Act} {n k : Nat} {v : Value} (h : k ≠ n) : (a.put (some n) v).tmps.getD k undef = a.tmps.getD k undef := by
 simp only [Act.put, Array.getD_eq_getD_getElem?]
 rw [Array.getElem?_setIfInBounds_ne (fun e => h e.symm)]
theorem zji {a : Act} {n : Nat} {v : Value} (h : n < a.tmps.size) : (a.put (some n) v).tmps.getD n undef = v := by
 simp [Act.put, Array.getD, h]
theorem Fr.put1 {st st' : St} {s s' : RS} {a : Act} {w w' : World} {n : Nat} {d : D} {v : Value} (h : Fr P N st s a w) (hl : Later s s') (hr : RH P s' w') (hn : n < N) (ht : ∀ k, st'.t k = if k = n then d else st.t k) (hH : s'.H = st'.H) (hx : s'.nx = st'.nx) (V : rel s' d v) : Fr P N st' s' (a.put (some n) v) w' := by
 refine ⟨hH, hx, by simp [Act.put, h.size], h.defers, fun j => ?_, hr⟩
 rw [ht]
 by_cases hj : j = n
 ·subst hj
  rw [if_pos rfl, zji (by rw [h.size]; exact hn)]; exact V
 ·rw [if_neg hj, z7h hj]; exact rel.later hl _ _ (h.tmps j)
theorem Fr.same {st st' : St} {s s' : RS} {a : Act} {w w' : World} (h : Fr P N st s a w) (hl : Later s s') (hr : RH P s' w') (ht : ∀ k, st'.t k = st.t k) (hH : s'.H = st'.H) (hx : s'.nx = st'.nx) : Fr P N st' s' a w' :=
 ⟨hH, hx, h.size, h.defers, fun j => by rw [ht]; exact rel.later hl _ _ (h.tmps j), hr⟩
end
structure EntO (N : Nat) (ops : Array Oper) (T : TypeId) (m k tL tB tE tX : Nat) (c : Operand) (bop : BinOp) (bt bu : TypeId) (iL iB iE iX iS : Nat) : Prop where
 oL : ∃ o, ops[iL]? = some o /\ o.dst = some tL /\ o.op = .lookup T (.tmp m) (.tmp k) false /\ o.guard = none
 oB : ∃ o, ops[iB]? = some o /\ o.dst = some tB /\ o.op = .binOp bop bt (.tmp tL) c bu /\ o.guard = none
 oE : ∃ o, ops[iE]? = some o /\ o.dst = some tE /\ o.op = .mapEntry T (.tmp m) (.tmp k) /\ o.guard = none
 oX : ∃ o, ops[iX]? = some o /\ o.dst = some tX /\ o.op = .extract (.tmp tE) 1 /\ o.guard = none
 oS : ∃ o, ops[iS]? = some o /\ o.dst = none /\ o.op = .entryStore T (.tmp m) (.tmp tX) (.tmp tB) /\ o.guard = none
 dep : dirDep ops iL iB = true /\ dirDep ops iE iX = true /\ dirDep ops iB iS = true /\ dirDep ops iX iS = true
 lt : tL < N /\ tB < N /\ tE < N /\ tX < N
 nm : m ≠ tL /\ m ≠ tB /\ m ≠ tE /\ m ≠ tX
 nk : k ≠ tL /\ k ≠ tB /\ k ≠ tE /\ k ≠ tX
 nt : tL ≠ tB /\ tL ≠ tE /\ tL ≠ tX /\ tB ≠ tE /\ tB ≠ tX /\ tE ≠ tX
def z4q (iL iB iE iX iS i j : Nat) : List Nat := (if i = 0 then [iL] else []) ++ ((if i < 2 then [iB] else []) ++ ((if j = 0 then [iE] else []) ++ ((if j < 2 then [iX] else []) ++ [iS])))
def stG (tL tB tE tX : Nat) (v v2 : D) (st : St) (H : HM) (i j : Nat) : St :=
 ⟨fun n => if n = tE /\ 0 < j then .any else if n = tX /\ 1 < j then .any else if n = tL /\ 0 < i then v else if n = tB /\ 1 < i then v2 else st.t n, H, st.nx⟩
def znq (z : D) : Option (Nat × D) -> D
 | some (_, v) => v
 | none => z
theorem updHs {H : HM} {id : Nat} {o : Option HObj} : z0u H id o id = o := by simp [z0u]
theorem zlx {kt : TypeId} {k z : D} (hr : eqK P kt k k = some true) : ∀ {es : List (D × D)}, z2a P kt k es = some none -> z2a P kt k (es ++ [(k, z)]) = some (some (es.length, z))
 | [], _ => by simp [z2a, hr]
 | (k', d) :: es, h => by
  simp only [z2a] at h
  simp only [List.cons_append, z2a]
  cases hc : eqK P kt k k' with
  | none => rw [hc] at h; cases h
  | some b =>
   rw [hc] at h
   cases b with
   | true => simp at h
   | false =>
    cases hq : z2a P kt k es with
    | none => simp only [hq] at h; cases h
    | some q =>
     cases q with
     | none =>
      have := zlx (z := z) hr hq
      simp [this]
     | some q => simp only [hq] at h; cases h
set_option maxHeartbeats 4000000 in
theorem zzv {N : Nat} {ops : Array Oper} {Q : Exit -> Act -> World -> Prop} {T kt et : TypeId} {m k tL tB tE tX : Nat} {c : Value} {bop : BinOp} {bt bu : TypeId} {iL iB iE iX iS : Nat} (E : EntO N ops T m k tL tB tE tX (.const c) bop bt bu iL iB iE iX iS)
  (hlow : za9 ops = true) (hdst : ∀ (i : Nat) o, ops[i]? = some o -> z36 N o = true) {st : St} {id : Nat} {es : List (D × D)} {key z v2 : D} {fd : Option (Nat × D)} (hmt : z3r P T = some (kt, et)) (hkt : zpo P kt = true) (hfit : z5c P kt key = true) (hself : eqK P kt key key = some true) (hz : zad P et = some z)
  (hf : z2a P kt key es = some fd) (hm : st.t m = .mp id) (O : st.t k = key) (hH : st.H id = some (.map es)) (hB : zm4 P bop bt (znq z fd) (zjo c) = some v2) :
  ∀ (n i j : Nat), i + j + n = 4 -> i <= 2 -> j <= 2 -> ∀ (fuel : Nat) (listed : Array Bool) (s : RS) (a : Act) (w : World), n + 1 <= fuel -> listed.size = ops.size -> Rest ops listed (z4q iL iB iE iX iS i j) ->
   Fr P N (stG tL tB tE tX (znq z fd) v2 st (if j = 0 then st.H else z0u st.H id (some (.map (zoq z key es fd)))) i j) s a w ->
   (0 < j -> ∃ b, zys w (a.tmps.getD m undef) b (zwl es fd) /\ (j = 1 -> ∃ u, a.tmps.getD tE undef = .tuple #[u, goInt b]) /\ (j = 2 -> a.tmps.getD tX undef = goInt b)) ->
   (∀ s' a' w', Fr P N (stG tL tB tE tX (znq z fd) v2 st (z0u (z0u st.H id (some (.map (zoq z key es fd)))) id (some (.map (z3h (zoq z key es fd) (zwl es fd) v2)))) 2 2) s' a' w' -> Step s w s' w' -> Q .normal a' w') ->
   wpAny P .any ops Q fuel listed a w := by
 obtain ⟨⟨oL, eL, dL, pL, gL⟩, ⟨oB, eB, dB, pB, gB⟩, ⟨oE, eE, dE, pE, gE⟩, ⟨oX, eX, dX, pX, gX⟩, ⟨oS, eS, dS, pS, gS⟩, ⟨kLB, kEX, kBS, kXS⟩, ⟨lL, lB, lE, lX⟩, ⟨m1, m2, m3, m4⟩, ⟨k1, k2, k3, k4⟩, ⟨n1, n2, n3, n4, n5, n6⟩⟩ := E
 have tm : ∀ H i j, (stG tL tB tE tX (znq z fd) v2 st H i j).t m = .mp id := fun H i j => by simp [stG, m1, m2, m3, m4, hm]
 have tk : ∀ H i j, (stG tL tB tE tX (znq z fd) v2 st H i j).t k = key := fun H i j => by simp [stG, k1, k2, k3, k4, O]
 have hv : ∀ r, zhw (zad P et) false (some r) = some (znq z r) := fun r => by rw [hz]; cases r <;> rfl
 have look : ∀ j : Nat, z56 P (if j = 0 then st.H else z0u st.H id (some (.map (zoq z key es fd)))) T (.mp id) key false = some (znq z fd) := fun j => by
  unfold z56
  rw [hmt]
  by_cases hj : j = 0
  ·rw [if_pos hj]
   simp only [esD, hH, hkt, hfit, and_self, if_true, hf, hv]
  ·rw [if_neg hj]
   simp only [esD, updHs, hkt, hfit, and_self, if_true]
   cases fd with
   | none =>
    show zhw _ _ (z2a P kt key (es ++ [(key, z)])) = _
    rw [zlx hself hf, hv]; rfl
   | some q =>
    show zhw _ _ (z2a P kt key es) = _
    rw [hf, hv]
 intro n
 induction n with
 | zero =>
  intro i j hn hi hj fuel listed s a w hfu hsz hR hfr hE hq
  obtain rfl : i = 2 := by omega
  obtain rfl : j = 2 := by omega
  obtain ⟨fuel, rfl⟩ : ∃ f, fuel = f + 1 := ⟨fuel - 1, by omega⟩
  refine ⟨fun hr => (z7f hsz hlow hr iS ((hR.2 iS).1 (by simp [z4q])).1 ((hR.2 iS).1 (by simp [z4q])).2).elim, fun x hx => ?_⟩
  obtain ⟨h1, h2, _⟩ := z3z.1 hx
  have hmem := (hR.2 x).2 ⟨h1, h2⟩
  obtain rfl : x = iS := by simpa [z4q] using hmem
  obtain ⟨b, he, _, hx2⟩ := hE (by omega)
  have hx2 := hx2 rfl
  have rm := hfr.tmps m
  rw [tm] at rm
  have rb := hfr.tmps tB
  rw [show (stG tL tB tE tX (znq z fd) v2 st _ 2 2).t tB = v2 from by simp [stG, n4, n5, n1.symm]] at rb
  have hsH := hfr.H
  obtain ⟨s', w', hrun, g1, g2, g3, g4⟩ := zl1 (T := T) hfr.heap (by rw [hsH]; exact updHs) rm he rb
  refine op_skip eS gS (w' := w') (by unfold execOp; rw [pS]; simp only [Act.eval]; rw [hx2]; simp only [Sem.run_bind, hrun, Result.andThen_ok, Sem.run_pure]) ?_
  rw [dS]
  have hfr' : Fr P N (stG tL tB tE tX (znq z fd) v2 st (z0u (z0u st.H id (some (.map (zoq z key es fd)))) id (some (.map (z3h (zoq z key es fd) (zwl es fd) v2)))) 2 2) s' a w' :=
   hfr.same g1.later g2 (fun _ => rfl) (by rw [g3, hsH]; rfl) (by rw [g4, hfr.nx]; rfl)
  exact zje (own := []) hlow hdst fuel [] _ _ s' a w' (by simp) (by simpa using hsz) (by have := hR; rw [show z4q iL iB iE iX x 2 2 = [] ++ x :: [] from rfl] at this; exact this.step) List.Pairwise.nil (K := fun st' => st' = stG tL tB tE tX (znq z fd) v2 st (z0u (z0u st.H id (some (.map (zoq z key es fd)))) id (some (.map (z3h (zoq z key es fd) (zwl es fd) v2)))) 2 2) rfl hfr' fun st2 s2 a2 w2 hK hf2 hs2 => hq s2 a2 w2 (by rw [<- hK]; exact hf2) (g1.trans hs2)
 | succ n ih =>
  intro i j hn hi hj fuel listed s a w hfu hsz hR hfr hE hq
  obtain ⟨fuel, rfl⟩ : ∃ f, fuel = f + 1 := ⟨fuel - 1, by omega⟩
  refine ⟨fun hr => (z7f hsz hlow hr iS ((hR.2 iS).1 (by simp [z4q])).1 ((hR.2 iS).1 (by simp [z4q])).2).elim, fun x hx => ?_⟩
  obtain ⟨h1, h2, _⟩ := z3z.1 hx
  have hmem := (hR.2 x).2 ⟨h1, h2⟩
  have un : ∀ y ∈ z4q iL iB iE iX iS i j, listed.getD y true = false := fun y hy => ((hR.2 y).1 hy).2
  have rm := hfr.tmps m
  rw [tm] at rm
  have rk := hfr.tmps k
  rw [tk] at rk
  have hsH := hfr.H
  have hcases : (x = iL /\ i = 0) \/ (x = iB /\ i < 2) \/ (x = iE /\ j = 0) \/ (x = iX /\ j < 2) \/ x = iS := by
   unfold z4q at hmem
   simp only [List.mem_append, List.mem_singleton] at hmem
   rcases hmem with h | h | h | h | h
   ·split at h
    ·exact .inl ⟨by simpa using h, by assumption⟩
    ·cases h
   ·split at h
    ·exact .inr (.inl ⟨by simpa using h, by assumption⟩)
    ·cases h
   ·split at h
    ·exact .inr (.inr (.inl ⟨by simpa using h, by assumption⟩))
    ·cases h
   ·split at h
    ·exact .inr (.inr (.inr (.inl ⟨by simpa using h, by assumption⟩)))
    ·cases h
   ·exact .inr (.inr (.inr (.inr h)))
  have keep : ∀ (t : Nat) (u : Value), m ≠ t -> tE ≠ t -> tX ≠ t -> (0 < j -> ∃ b, zys w ((a.put (some t) u).tmps.getD m undef) b (zwl es fd) /\ (j = 1 -> ∃ u', (a.put (some t) u).tmps.getD tE undef = .tuple #[u', goInt b]) /\ (j = 2 -> (a.put (some t) u).tmps.getD tX undef = goInt b)) := fun t u hmt htE htX h0 => by
   obtain ⟨b, g1, g2, g3⟩ := hE h0
   exact ⟨b, by rw [z7h hmt]; exact g1, fun h => by obtain ⟨u', hu'⟩ := g2 h; exact ⟨u', by rw [z7h htE]; exact hu'⟩, fun h => by rw [z7h htX]; exact g3 h⟩
  rcases hcases with ⟨rfl, rfl⟩ | ⟨rfl, hi2⟩ | ⟨rfl, rfl⟩ | ⟨rfl, hj2⟩ | rfl
  ·obtain ⟨u, hrun, hu⟩ := zd2 (t := T) (ok := false) hfr.heap (by rw [hsH]; exact look j) rm rk
   refine zec eL gL (v := u) (w' := w) (by unfold execOp; rw [pL]; simp only [Act.eval, Sem.run_bind, hrun, Result.andThen_ok, Sem.run_pure]) ?_
   rw [dL]
   refine ih 1 j (by omega) (by omega) hj fuel _ s _ w (by omega) (by simpa using hsz) ?_ ?_ (keep tL u m1 n2.symm n3.symm) hq
   ·have h := hR
    rw [show z4q x iB iE iX iS 0 j = [] ++ x :: z4q x iB iE iX iS 1 j from by simp [z4q]] at h
    exact h.step
   ·exact hfr.put1 (Step.refl s w).later hfr.heap lL (fun q => by by_cases h1 : q = tE <;> by_cases h2 : q = tX <;> by_cases h3 : q = tL <;> by_cases h4 : q = tB <;> simp_all [stG]) hfr.H hfr.nx hu
  ·by_cases hi0 : i = 0
   ·have := z3b hx (un iL (by subst hi0; simp [z4q]))
    rw [kLB] at this; cases this
   obtain rfl : i = 1 := by omega
   have rl := hfr.tmps tL
   rw [show (stG tL tB tE tX (znq z fd) v2 st _ 1 j).t tL = znq z fd from by simp [stG, n2, n3]] at rl
   obtain ⟨u, hrun, hu⟩ := zhd (w := w) (x := .tmp tL) (y := .const c) hB rl (zem s c)
   refine zec eB gB (v := u) (w' := w) (by unfold execOp; rw [pB]; simp only [Act.eval]; rw [Sem.run_bind, hrun]; simp only [Result.andThen_ok, Sem.run_pure]) ?_
   rw [dB]
   refine ih 2 j (by omega) (by omega) hj fuel _ s _ w (by omega) (by simpa using hsz) ?_ ?_ (keep tB u m2 n4.symm n5.symm) hq
   ·have h := hR
    rw [show z4q iL x iE iX iS 1 j = [] ++ x :: z4q iL x iE iX iS 2 j from by simp [z4q]] at h
    exact h.step
   ·exact hfr.put1 (Step.refl s w).later hfr.heap lB (fun q => by by_cases h1 : q = tE <;> by_cases h2 : q = tX <;> by_cases h3 : q = tL <;> by_cases h4 : q = tB <;> simp_all [stG]) hfr.H hfr.nx hu
  ·obtain ⟨u, b, s1, w1, hrun, g1, g2, g3, g4, g5⟩ := zn8 hfr.heap hmt (by rw [hsH]; exact hH) hkt hfit rm rk hz hf
   refine zec eE gE (v := .tuple #[u, goInt b]) (w' := w1) (by unfold execOp; rw [pE]; simp only [Act.eval, Sem.run_bind, hrun, Result.andThen_ok, Sem.run_pure]) ?_
   rw [dE]
   refine ih i 1 (by omega) hi (by omega) fuel _ s1 _ w1 (by omega) (by simpa using hsz) ?_ ?_ (fun _ => ⟨b, by rw [z7h m3]; exact g5, fun _ => ⟨u, zji (by rw [hfr.size]; exact lE)⟩, fun h => by omega⟩) fun s' a' w' hf hs => hq s' a' w' hf (g1.trans hs)
   ·have h := hR
    rw [show z4q iL iB x iX iS i 0 = ((if i = 0 then [iL] else []) ++ (if i < 2 then [iB] else [])) ++ x :: [iX, iS] from by simp [z4q]] at h
    have h2 := h.step
    rwa [show ((if i = 0 then [iL] else []) ++ (if i < 2 then [iB] else [])) ++ [iX, iS] = z4q iL iB x iX iS i 1 from by simp [z4q]] at h2
   ·exact hfr.put1 (d := .any) g1.later g2 lE (fun q => by by_cases h1 : q = tE <;> by_cases h2 : q = tX <;> by_cases h3 : q = tL <;> by_cases h4 : q = tB <;> simp_all [stG]) (by rw [g3, hsH]; rfl) (by rw [g4, hfr.nx]; rfl) (by simp [rel])
  ·by_cases hj0 : j = 0
   ·have := z3b hx (un iE (by subst hj0; simp [z4q]))
    rw [kEX] at this; cases this
   obtain rfl : j = 1 := by omega
   obtain ⟨b, g1, g2, _⟩ := hE (by omega)
   obtain ⟨u, hu⟩ := g2 rfl
   refine zec eX gX (v := goInt b) (w' := w) (by unfold execOp; rw [pX]; simp only [Act.eval]; rw [hu]; simp [Instr.extract]) ?_
   rw [dX]
   refine ih i 2 (by omega) hi (by omega) fuel _ s _ w (by omega) (by simpa using hsz) ?_ ?_ (fun _ => ⟨b, by rw [z7h m4]; exact g1, fun h => by omega, fun _ => zji (by rw [hfr.size]; exact lX)⟩) hq
   ·have h := hR
    rw [show z4q iL iB iE x iS i 1 = ((if i = 0 then [iL] else []) ++ (if i < 2 then [iB] else [])) ++ x :: [iS] from by simp [z4q]] at h
    have h2 := h.step
    rwa [show ((if i = 0 then [iL] else []) ++ (if i < 2 then [iB] else [])) ++ [iS] = z4q iL iB iE x iS i 2 from by simp [z4q]] at h2
   ·exact hfr.put1 (d := .any) (Step.refl s w).later hfr.heap lX (fun q => by by_cases h1 : q = tE <;> by_cases h2 : q = tX <;> by_cases h3 : q = tL <;> by_cases h4 : q = tB <;> simp_all [stG]) hfr.H hfr.nx (by simp [rel])
  ·exfalso
   by_cases hi2 : i < 2
   ·have := z3b hx (un iB (by unfold z4q; rw [if_pos hi2]; simp))
    rw [kBS] at this; cases this
   ·have := z3b hx (un iX (by unfold z4q; rw [if_pos (show j < 2 by omega)]; simp))
    rw [kXS] at this; cases this
end Go.Proofs.YtfechgagcgbldaaDoor.Abs
namespace Go.Proofs.YtfechgagcgbldaaDoor.Abs
open Go.RowKit
variable {P : Program}
section
variable {own : List Nat} {ops : Array Oper} {K : St -> Prop}
theorem any_pre {N : Nat} {Q : Exit -> Act -> World -> Prop} {pre0 tail : List Nat} (hlow : za9 ops = true) (hdst : ∀ (i : Nat) o, ops[i]? = some o -> z36 N o = true) (htail : ∀ t ∈ tail, ∀ p ∈ pre0, zll ops ops.size p t = true) :
  ∀ (fuel : Nat) (L : List Nat) (listed : Array Bool) (st : St) (s : RS) (a : Act) (w : World), (∀ p ∈ L, p ∈ pre0) -> L.length + tail.length <= fuel -> listed.size = ops.size -> zbl ops listed -> Rest ops listed (L ++ tail) -> (L.Pairwise fun j i => okP own ops j i = true) -> z6a P own ops K L st -> Fr P N st s a w ->
  (∀ fuel' listed' st' s' a' w', tail.length <= fuel' -> listed'.size = ops.size -> Rest ops listed' tail -> K st' -> Fr P N st' s' a' w' -> Step s w s' w' -> wpAny P .any ops Q fuel' listed' a' w') -> wpAny P .any ops Q fuel listed a w := by
 intro fuel
 induction fuel with
 | zero =>
  intro L listed st s a w hp0 hl hsz hc hR hp hrun hf O
  have h0 : L = [] := List.eq_nil_of_length_eq_zero (by omega)
  subst h0
  exact O 0 listed st s a w (by simpa using hl) hsz hR hrun hf (Step.refl s w)
 | succ fuel ih =>
  intro L listed st s a w hp0 hl hsz hc hR hp hrun hf O
  cases L with
  | nil => exact O (fuel + 1) listed st s a w (by simpa using hl) hsz hR hrun hf (Step.refl s w)
  | cons p0 L0 =>
   have hu0 : p0 < ops.size /\ listed.getD p0 true = false := (hR.2 p0).1 (by simp)
   refine ⟨fun hr => (z7f hsz hlow hr p0 hu0.1 hu0.2).elim, fun i hi => ?_⟩
   obtain ⟨h1, h2, h3⟩ := z3z.1 hi
   have hoi := Array.getElem?_eq_getElem h1
   have hm := (hR.2 i).2 ⟨h1, h2⟩
   rcases List.mem_append.1 hm with hm | hm
   ·obtain ⟨r1, r2, eqL⟩ := List.append_of_mem hm
    rw [eqL] at hl hR hp hrun hp0
    have hun : ∀ j ∈ r1, listed.getD j true = false := fun j hj => ((hR.2 j).1 (by simp [hj])).2
    have hpp := List.pairwise_append.1 hp
    obtain ⟨o, d, H, nx, ho, hstep, hrest⟩ := zjh hoi r1 r2 st (fun j hj oj hoj => zbo (hpp.2.2 j hj i (by simp)) (z3b hi (hun j hj)) hoj hoi) hrun
    have hR' : Rest ops (listed.setIfInBounds i true) ((r1 ++ r2) ++ tail) := by
     have h := hR
     rw [List.append_assoc, List.cons_append] at h
     rw [List.append_assoc]; exact h.step
    have hc' : zbl ops (listed.setIfInBounds i true) := by
     intro k ok hk' hl' e he hb
     rw [z2d] at hl'
     simp only [Bool.or_eq_true, beq_iff_eq] at hl'
     rcases hl' with hl' | rfl
     ·exact z7c _ _ _ (hc k ok hk' hl' e he hb)
     ·exact z7c _ _ _ (h3 ok hk' e he hb)
    refine z3s ho (hdst i o ho) hf hstep fun s' a' w' hf' hs' => ih (r1 ++ r2) _ _ s' a' w' (fun p hp => hp0 p (by simp only [List.mem_append, List.mem_cons] at hp ⊢; rcases hp with h | h; (· exact .inl h); (· exact .inr (.inr h)))) ?_ (by simpa using hsz) hc' hR' ?_ hrest hf' fun f2 l2 st2 s2 a2 w2 g1 g2 g3 hK2 hf2 hs2 => O f2 l2 st2 s2 a2 w2 g1 g2 g3 hK2 hf2 (hs'.trans hs2)
    ·simp only [List.length_append, List.length_cons] at hl ⊢; omega
    ·exact hp.sublist (List.Sublist.append (List.Sublist.refl _) (List.sublist_cons_self _ _))
   ·have := z6m hsz hc _ _ _ (htail i hm p0 (hp0 p0 (by simp))) h3
    exact (zhs hu0.2 this).elim
def entOK (own : List Nat) (ops : Array Oper) (pre : List Nat) (iL iB iE iX iS : Nat) : Bool :=
 za9 ops && pwB (okP own ops) pre && pwB (fun j i => j != i) (pre ++ [iL, iB, iE, iX, iS]) && ((pre ++ [iL, iB, iE, iX, iS]).all fun i => decide (i < ops.size)) && decide ((pre ++ [iL, iB, iE, iX, iS]).length = ops.size) &&
 ((List.range ops.size).all fun i => (pre ++ [iL, iB, iE, iX, iS]).contains i) && ([iL, iB, iE, iX, iS].all fun t => pre.all fun p => zll ops ops.size p t)
theorem zat {N rid : Nat} {Q : Exit -> St -> Prop} {st : St} {T kt et : TypeId} {m k tL tB tE tX : Nat} {c : Value} {bop : BinOp} {bt bu : TypeId} {iL iB iE iX iS : Nat} (hm : P.follows .mixedOrders = true) (hdst : ∀ o ∈ ops.toList, z36 N o = true) (pre : List Nat)
  (E : EntO N ops T m k tL tB tE tX (.const c) bop bt bu iL iB iE iX iS) (hok : entOK own ops pre iL iB iE iX iS = true) (hmt : z3r P T = some (kt, et)) (hkt : zpo P kt = true) {z : D} (hz : zad P et = some z)
  (h : zcm P own ops (fun st => ∃ (id : Nat) (es : List (D × D)) (key v2 : D) (fd : Option (Nat × D)), st.t m = .mp id /\ st.t k = key /\ st.H id = some (.map es) /\ z5c P kt key = true /\ eqK P kt key key = some true /\ z2a P kt key es = some fd /\ zm4 P bop bt (znq z fd) (zjo c) = some v2 /\
   Q .normal (stG tL tB tE tX (znq z fd) v2 st (z0u (z0u st.H id (some (.map (zoq z key es fd)))) id (some (.map (z3h (zoq z key es fd) (zwl es fd) v2)))) 2 2)) (.run pre) st) : Sem P N (.region rid ops true) Q st := by
 intro s0 w0 s a w hf hs
 obtain ⟨hds, hdr⟩ := z5v (w' := { w with drawn := w.drawn + 1 }) hf.heap rfl rfl rfl rfl
 have hf' : Fr P N st s a { w with drawn := w.drawn + 1 } := ⟨hf.H, hf.nx, hf.size, hf.defers, hf.tmps, hdr⟩
 have hdst2 : ∀ (i : Nat) o, ops[i]? = some o -> z36 N o = true := fun i o ho => hdst o (by
  obtain ⟨h1, h2⟩ := (Array.getElem?_eq_some_iff.1 ho)
  rw [<- h2]; exact (Array.mem_toList_iff.2 (Array.getElem_mem h1)))
 simp only [entOK, Bool.and_eq_true, List.all_eq_true, decide_eq_true_eq, List.contains_iff_mem, List.mem_range] at hok
 obtain ⟨⟨⟨⟨⟨⟨k1, k2⟩, k3⟩, k4⟩, k5⟩, k6⟩, k7⟩ := hok
 have nd : (pre ++ [iL, iB, iE, iX, iS]).Nodup := (z6o k3).imp fun h => by simpa using h
 have gl : ∀ i, i < ops.size -> (Array.replicate ops.size false).getD i true = false := fun i hi => by
  simp [Array.getD_eq_getD_getElem?, hi]
 have hR : Rest ops (Array.replicate ops.size false) (pre ++ [iL, iB, iE, iX, iS]) := ⟨nd, fun i => ⟨fun hi => ⟨k4 i hi, gl i (k4 i hi)⟩, fun hi => k6 i hi.1⟩⟩
 have hC : zbl ops (Array.replicate ops.size false) := fun i o ho hl => by
  have := gl i (Array.getElem?_eq_some_iff.1 ho).1
  rw [this] at hl; cases hl
 simp only [List.length_append] at k5
 refine wp_region_any hm (any_pre (Q := lift P N s0 w0 Q) (pre0 := pre) k1 hdst2 k7 ops.size pre _ st s a _ (fun p hp => hp) (by omega) (by simp) hC hR (z6o k2) h hf' fun f2 l2 st2 s2 a2 w2 g1 g2 g3 hK hf2 hs2 => ?_)
 obtain ⟨id, es, key, v2, fd, e1, e2, e3, e4, e5, e6, e7, hq⟩ := hK
 refine zzv E k1 hdst2 hmt hkt e4 e5 hz e6 e1 e2 e3 e7 4 0 0 rfl (by omega) (by omega) f2 l2 s2 a2 w2 (by simpa using g1) g2 g3 (hf2.same (Step.refl s2 w2).later hf2.heap (fun q => by simp [stG]) hf2.H hf2.nx) (fun h => by omega) fun s' a' w' hf3 hs3 => ⟨_, s', hq, hf3, hs.trans (hds.trans (hs2.trans hs3))⟩
end
end Go.Proofs.YtfechgagcgbldaaDoor.Abs
namespace Go.Proofs.YtfechgagcgbldaaDoor
open _root_.Go.Proofs.Tryd
section
open Abs Facts Tr
namespace Tr
def z8a (h : List (Idv × Int)) (i : Idv) : Int := ((h.filter fun p => decide (p.1 = i)).map (·.2)).sum
theorem z4m (h g : List (Idv × Int)) (i : Idv) : z8a (h ++ g) i = z8a h i + z8a g i := by
 unfold z8a; rw [List.filter_append, List.map_append, List.sum_append]
theorem zij (k : Idv) (d : Int) (i : Idv) : z8a [(k, d)] i = if k = i then d else 0 := by
 unfold z8a
 by_cases h : k = i <;> simp [h]
theorem zy4 {h : List (Idv × Int)} {i : Idv} (hn : i ∉ h.map (·.1)) : z8a h i = 0 := by
 unfold z8a
 rw [List.filter_eq_nil_iff.2]
 ·rfl
 ·intro p hp
  simp only [decide_eq_true_eq]
  intro e
  exact hn (List.mem_map.2 ⟨p, hp, e⟩)
theorem ze2 (l : List Idv) (d : Int) (i : Idv) : z8a (l.map fun x => (x, d)) i = (l.count i : Int) * d := by
 induction l with
 | nil => simp [z8a]
 | cons x l ih =>
  rw [List.map_cons, show ((x, d) :: l.map fun x => (x, d)) = [(x, d)] ++ l.map fun x => (x, d) from rfl, z4m, ih, zij, List.count_cons]
  by_cases h : x = i
  ·simp only [h, if_true, beq_self_eq_true, Int.natCast_add]
   rw [Int.add_mul]; omega
  ·simp [h]
theorem z92 {h : List (Idv × Int)} (i : Idv) (V : ∀ p ∈ h, p.2 = 1 \/ p.2 = -1) : -(h.length : Int) <= z8a h i /\ z8a h i <= h.length := by
 induction h with
 | nil => simp [z8a]
 | cons p l ih =>
  have h1 := ih fun q hq => V q (List.mem_cons_of_mem _ hq)
  have h2 := V p (List.mem_cons_self ..)
  rw [show p :: l = [(p.1, p.2)] ++ l from rfl, z4m, zij, List.length_append]
  simp only [List.length_cons, List.length_nil]
  split <;> omega
end Tr
def zc4 (h : List (Idv × Int)) : List (D × D) := (z19 (h.map (·.1))).map fun i => (z3a i, D.int .i64 (z8a h i))
def fdC (h : List (Idv × Int)) (i : Idv) : Option (Nat × D) := if i ∈ h.map (·.1) then some ((z19 (h.map (·.1))).idxOf i, .int .i64 (z8a h i)) else none
theorem zaz (h : List (Idv × Int)) (i : Idv) : z2a prog 23 (z3a i) (zc4 h) = some (fdC h i) := by
 have e := z5r z3a zk0 (fun i => D.int .i64 (z8a h i)) i (z19 (h.map (·.1)))
 rw [zc4, e, fdC]
 by_cases O : i ∈ h.map (·.1)
 ·rw [if_pos O, if_pos (((z25 _).2.1 i).2 O)]
 ·rw [if_neg O, if_neg fun h2 => O (((z25 _).2.1 i).1 h2)]
theorem z6g (h : List (Idv × Int)) (i : Idv) : znq (.int .i64 0) (fdC h i) = .int .i64 (z8a h i) := by
 unfold fdC
 by_cases O : i ∈ h.map (·.1)
 ·rw [if_pos O]; rfl
 ·rw [if_neg O, zy4 O]; rfl
theorem zf5 (k v x : D) : ∀ l : List (D × D), z3h (l ++ [(k, v)]) l.length x = l ++ [(k, x)]
 | [] => rfl
 | e :: l => by rw [List.cons_append, List.length_cons, z3h, zf5 k v x l]; rfl
theorem zb0 (h : List (Idv × Int)) (i : Idv) (d : Int) : z3h (zoq (.int .i64 0) (z3a i) (zc4 h) (fdC h i)) (zwl (zc4 h) (fdC h i)) (.int .i64 (z8a h i + d)) = zc4 (h ++ [(i, d)]) := by
 have hc : ∀ j, z8a (h ++ [(i, d)]) j = if i = j then z8a h j + d else z8a h j := fun j => by
  rw [z4m, zij]; split <;> omega
 have hm := (z25 (h.map (·.1))).2.1 i
 unfold zc4 fdC
 rw [List.map_append, List.map_cons, List.map_nil, z7g]
 by_cases O : i ∈ h.map (·.1)
 ·rw [if_pos O, if_pos (hm.2 O)]
  simp only [zoq, zwl]
  rw [z39 z3a (fun j => D.int .i64 (z8a h j)) i _ _ (z25 _).1 (hm.2 O)]
  refine List.map_congr_left fun j _ => ?_
  rw [hc]
  by_cases e : j = i
  ·rw [if_pos e, if_pos e.symm, e]
  ·rw [if_neg e, if_neg fun e2 => e e2.symm]
 ·rw [if_neg O, if_neg fun h2 => O (hm.1 h2)]
  simp only [zoq, zwl]
  rw [zf5, List.map_append, List.map_cons, List.map_nil]
  congr 1
  ·refine List.map_congr_left fun j hj => ?_
   have hne : ¬ i = j := fun e => O (hm.1 (by rw [e]; exact hj))
   rw [hc, if_neg hne]
  ·rw [hc, if_pos rfl]
end
section
open Abs
namespace Tr
structure Tw where
 state : Int
 text : ByteArray
instance : DecidableEq Tw := fun a b => decidable_of_iff (a.state = b.state /\ a.text = b.text) ⟨fun ⟨h1, h2⟩ => by cases a; cases b; simp_all, fun h => by subst h; exact ⟨rfl, rfl⟩⟩
inductive TT where
 | mk (state kind : Int) (id : Idv) (label was : ByteArray) (moved : Bool) (head words : List Tw) (kids : List TT)
def TT.state : TT -> Int | .mk s _ _ _ _ _ _ _ _ => s
def TT.kind : TT -> Int | .mk _ k _ _ _ _ _ _ _ => k
def TT.id : TT -> Idv | .mk _ _ i _ _ _ _ _ _ => i
def TT.label : TT -> ByteArray | .mk _ _ _ l _ _ _ _ _ => l
def TT.was : TT -> ByteArray | .mk _ _ _ _ w _ _ _ _ => w
def TT.moved : TT -> Bool | .mk _ _ _ _ _ m _ _ _ => m
def TT.head : TT -> List Tw | .mk _ _ _ _ _ _ h _ _ => h
def TT.words : TT -> List Tw | .mk _ _ _ _ _ _ _ w _ => w
def TT.kids : TT -> List TT | .mk _ _ _ _ _ _ _ _ k => k
theorem TT.eta (t : TT) : TT.mk t.state t.kind t.id t.label t.was t.moved t.head t.words t.kids = t := by cases t; rfl
mutual
theorem tind1 {p : TT -> Prop} (h : ∀ t, (∀ k ∈ t.kids, p k) -> p t) : ∀ t, p t
 | .mk s k i l w m a b ks => h (.mk s k i l w m a b ks) (tind2 h ks)
theorem tind2 {p : TT -> Prop} (h : ∀ t, (∀ k ∈ t.kids, p k) -> p t) : ∀ (ks : List TT), ∀ k ∈ ks, p k
 | [], k, O => by cases O
 | t :: ts, k, O => by
  rcases List.mem_cons.1 O with e | O
  ·rw [e]; exact tind1 h t
  ·exact tind2 h ts k O
end
mutual
def zii {β : Type} (f : TT -> List β -> β) : TT -> β
 | .mk s k i l w m a b ks => f (.mk s k i l w m a b ks) (zxx f ks)
def zxx {β : Type} (f : TT -> List β -> β) : List TT -> List β
 | [] => []
 | t :: ts => zii f t :: zxx f ts
end
theorem zod {β : Type} (f : TT -> List β -> β) : ∀ ks, zxx f ks = ks.map (zii f)
 | [] => rfl
 | t :: ts => by simp [zxx, zod f ts]
theorem ze1 {β : Type} (f : TT -> List β -> β) (t : TT) : zii f t = f t (t.kids.map (zii f)) := by
 cases t with
 | mk s k i l w m a b ks => rw [zii, zod]; rfl
end Tr
namespace Abs
open Tr
def z33 (w : Tw) : List D := [.int .i64 w.state, .str w.text]
def zxy (w : Tw) : D := .agg (z33 w)
def z26 (l : List Tw) : D := .rsl false 2 (l.map zxy)
def zoe (t : TT) (ks : List (List D)) : List D := [.int .i64 t.state, .int .i64 t.kind, .int .i64 t.id.act, .int .i64 t.id.item, .int .i64 t.id.n, .str t.label, .str t.was, .bool t.moved, z26 t.head, z26 t.words, .rsl false 11 (ks.map .agg)]
def z0w (t : TT) : List D := zii zoe t
def z9g (t : TT) : D := .agg (z0w t)
def z86 (l : List TT) : D := .rsl false 11 (l.map z9g)
theorem z1n (t : TT) : z0w t = [.int .i64 t.state, .int .i64 t.kind, .int .i64 t.id.act, .int .i64 t.id.item, .int .i64 t.id.n, .str t.label, .str t.was, .bool t.moved, z26 t.head, z26 t.words, z86 t.kids] := by
 unfold z0w
 rw [ze1, zoe, List.map_map]; rfl
@[go_sem] theorem z4t (t : TT) : (z0w t).length = 11 := by rw [z1n]; rfl
@[go_sem] theorem zxz (t : TT) : (z0w t)[0]? = some (.int .i64 t.state) := by rw [z1n]; rfl
@[go_sem] theorem z003 (t : TT) : (z0w t)[1]? = some (.int .i64 t.kind) := by rw [z1n]; rfl
@[go_sem] theorem zy0 (t : TT) : (z0w t)[5]? = some (.str t.label) := by rw [z1n]; rfl
@[go_sem] theorem cellsTT_was (t : TT) : (z0w t)[6]? = some (.str t.was) := by rw [z1n]; rfl
@[go_sem] theorem zy1 (t : TT) : (z0w t)[7]? = some (.bool t.moved) := by rw [z1n]; rfl
@[go_sem] theorem z004 (t : TT) : (z0w t)[8]? = some (z26 t.head) := by rw [z1n]; rfl
@[go_sem] theorem zy2 (t : TT) : (z0w t)[9]? = some (z26 t.words) := by rw [z1n]; rfl
@[go_sem] theorem z005 (t : TT) : (z0w t)[10]? = some (z86 t.kids) := by rw [z1n]; rfl
@[go_sem] theorem cellsTT_id (t : TT) : List.take 3 (List.drop 2 (z0w t)) = [.int .i64 t.id.act, .int .i64 t.id.item, .int .i64 t.id.n] := by rw [z1n]; rfl
@[go_sem] theorem z006 (t : TT) : List.take 11 (z0w t) = z0w t := List.take_of_length_le (by rw [z4t]; exact Nat.le_refl _)
@[go_sem] theorem zwg (a b c d e f g h i j k : D) (t : TT) : z1a [a, b, c, d, e, f, g, h, i, j, k] 0 (z0w t) = z0w t := by
 rw [z1n]; rfl
@[go_sem] theorem zu4 (t : TT) : z9g t = .agg (z0w t) := rfl
@[go_sem] theorem encTw_agg (w : Tw) : zxy w = .agg [.int .i64 w.state, .str w.text] := rfl
theorem z4l (l : List Tw) : pureD (z26 l) = true := by simp only [z26, pureD]; exact z0a (fun _ => rfl) l
theorem zkh {f : TT -> D} : ∀ {l : List TT}, (∀ t ∈ l, pureD (f t) = true) -> pureD.pureL (l.map f) = true
 | [], _ => rfl
 | t :: l, h => by
  simp only [List.map_cons, pureD.pureL, Bool.and_eq_true]
  exact ⟨h t (by simp), zkh fun k O => h k (List.mem_cons_of_mem _ O)⟩
theorem z3y : ∀ t, pureD (z9g t) = true := by
 refine tind1 fun t ih => ?_
 rw [z9g, z1n]
 have O : pureD (z86 t.kids) = true := by simp only [z86, pureD]; exact zkh ih
 simp only [pureD, pureD.pureL, Bool.true_and, Bool.and_true, z4l, O]
theorem z6f (t : TT) : pureD.pureL (z0w t) = true := by have := z3y t; simpa only [z9g, pureD] using this
theorem zmm (l : List TT) : pureD (z86 l) = true := by simp only [z86, pureD]; exact z0a z3y l
@[go_sem] theorem pureL_encTT (l : List TT) : pureD.pureL (l.map z9g) = true := z0a z3y l
@[go_sem] theorem pureL_encTw (l : List Tw) : pureD.pureL (l.map zxy) = true := z0a (fun _ => rfl) l
attribute [go_sem] z6f
end Abs
end
section
open Abs Facts Tr
attribute [local irreducible] awp
namespace Tr
end Tr
namespace Tr
instance : DecidableEq ByteArray := inferInstance
def zkl : List (T -> Bool) -> List T -> Bool
 | [], [] => true
 | f :: fs, t :: ts => f t && zkl fs ts
 | _, _ => false
def zr1 (a : T) : T -> Bool := zg6 (fun a l b => decide (a.id = b.id) && (decide (a.kind = b.kind) && (decide (a.label = b.label) && (decide (a.head = b.head) && (decide (a.words = b.words) && (decide (a.kids.length = b.kids.length) && zkl l b.kids)))))) a
theorem zy7 (a b : T) : zr1 a b = (decide (a.id = b.id) && (decide (a.kind = b.kind) && (decide (a.label = b.label) && (decide (a.head = b.head) && (decide (a.words = b.words) && (decide (a.kids.length = b.kids.length) && zkl (a.kids.map zr1) b.kids)))))) := by
 unfold zr1; rw [z3m]
theorem zkm : ∀ (l m : List T), (∀ k ∈ l, ∀ b, zr1 k b = true ↔ k = b) -> (zkl (l.map zr1) m = true ↔ l = m)
 | [], [], _ => by simp [zkl]
 | [], _ :: _, _ => by simp [zkl]
 | _ :: _, [], _ => by simp [zkl]
 | a :: l, b :: m, h => by
  simp only [List.map_cons, zkl, Bool.and_eq_true, List.cons.injEq]
  rw [h a (by simp) b, zkm l m (fun k O => h k (List.mem_cons_of_mem _ O))]
theorem zu7 : ∀ a b : T, zr1 a b = true ↔ a = b := by
 refine z53 fun a ih b => ?_
 rw [zy7]
 simp only [Bool.and_eq_true, decide_eq_true_eq]
 rw [zkm a.kids b.kids ih]
 constructor
 ·rintro ⟨h1, h2, h3, h4, h5, _, h6⟩
  rw [<- T.eta a, <- T.eta b, h1, h2, h3, h4, h5, h6]
 ·rintro rfl; exact ⟨rfl, rfl, rfl, rfl, rfl, rfl, rfl⟩
instance : DecidableEq T := fun a b => decidable_of_iff _ (zu7 a b)
end Tr
namespace Tr
theorem z2l {id : Idv} {t : T} (h : t.id = id) : z1q id t = [t] := by rw [za0, if_pos h]
theorem z4u {id : Idv} {t : T} {i : Nat} (h0 : ¬ t.id = id) (hi : i < t.kids.length) (h1 : ∀ j, (hj : j < i) -> (h : j < t.kids.length) -> z1q id t.kids[j] = []) (h2 : z1q id t.kids[i] ≠ []) : z1q id t = t :: z1q id t.kids[i] := by
 rw [za0, if_neg h0, zkk (z1q id) hi h1 h2]
theorem zb2 {id : Idv} {t : T} {i : Nat} (h0 : ¬ t.id = id) (hi : t.kids.length <= i) (h1 : ∀ j, (hj : j < i) -> (h : j < t.kids.length) -> z1q id t.kids[j] = []) : z1q id t = [] := by
 rw [za0, if_neg h0, zkj (z1q id) h1 hi]
theorem zy8 {id : Idv} {t : T} (h : z1q id t ≠ []) : (findR id t).2 = true := by unfold findR; rw [zaj _ h]
theorem zb3 {id : Idv} {t : T} (h : z1q id t = []) : findR id t = (T.zero, false) := by unfold findR; rw [h]; rfl
theorem zf6 {id : Idv} {t : T} : (findR id t).2 = false ↔ z1q id t = [] := by
 constructor
 ·intro h
  by_cases h2 : z1q id t = []
  ·exact h2
  ·rw [zy8 h2] at h; cases h
 ·intro h; rw [zb3 h]
theorem zc5 {id : Idv} {t : T} : (findR id t).2 = true ↔ z1q id t ≠ [] := by
 rw [<- Bool.not_eq_false, zf6]
theorem z5n {id : Idv} {t : T} (h : t.id = id) : findR id t = (t, true) := by unfold findR; rw [z2l h]; rfl
theorem z74 {id : Idv} {t k : T} (h : z1q id t = t :: z1q id k) (h2 : z1q id k ≠ []) : findR id t = findR id k := by
 unfold findR
 rw [h, List.getLast?_cons_of_ne_nil h2]
end Tr
theorem zy9 (id : Idv) : ∀ t : T, szB t = true -> PC prog 12 [z1o t, z3a id] (.tup [z1o (findR id t).1, .bool (findR id t).2]) := by
 refine z53 fun t ih hs => ?_
 obtain ⟨h0, h1, g1, h2, g2, h3, h4⟩ := (z3o t).1 hs
 refine z3q 3 (by simp only [pureD.pureL, z0h]; rfl) (by simp only [pureD, pureD.pureL, z0h, Bool.and_self]) (z30 [3000023, 3000025, 3000026, 3000027, 5000028] func12 rfl (by decide +kernel) rfl ?_)
 show awp _ _ (Code.seq _ _) _ _
 rw [show Tryd.f12.results.toList = [.cell 4 27, .tmp 5] from rfl]
 repeat' (first | refine nxt ?_ | ((refine zqh fun K hK => ?_); (simp (disch := omega) only [go_sem, Nat.reduceBEq, ↓reduceIte, reduceCtorEq, Nat.reduceAdd, Nat.reduceLeDiff])) | (refine zqd _ rfl ?_ ?_ <;> intro hc <;> (((try simp only [z06] at hc); (try omega)))) | refine zqu (by (simp (disch := omega) only [go_sem, Nat.reduceBEq, ↓reduceIte, Nat.reduceLeDiff]); rfl) rfl ?_ | (refine hK _ ?_; clear hK K))
 ·rw [z5n (by assumption)]
  exact z1e (by simp only [pureD, pureD.pureL, z1z, Bool.and_self]) (Le.refl _)
 ·have hne : ¬ t.id = id := by assumption
  (refine z6x (fun U st => ∃ (i : _), U = t.kids.length - i /\ st.t 2 = .ptr 0 0 /\ st.t 3 = .ptr 1 0 /\ st.t 4 = .ptr 2 0 /\ st.t 6 = .int .i64 i /\ st.H 0 = some (.box 27 (z04 t)) /\ st.H 1 = some (.box 23 (cellsId id)) /\ st.H 2 = some (.box 27 [.int .i64 0, .int .i64 0, .int .i64 0, .int .i64 0, .str ByteArray.empty, .nil, .nil, .nil]) /\ (i <= t.kids.length) /\ (3 <= st.nx) /\ (∀ j, (hj : j < i) -> (h : j < t.kids.length) -> z1q id t.kids[j] = [])) ?_ ?_); rotate_left; (rintro U st ⟨i, rfl, q2, q3, q4, q6, qH0, qH1, qH2, qp0, qp1, qp2⟩); rotate_left
  ·(refine ⟨_, 0, rfl, ?_⟩); (simp (disch := omega) only [go_sem, Nat.reduceBEq, Nat.reduceLeDiff, true_and, Int.natCast_zero, cellsId])
   (repeat' (omega))
  by_cases hi : i < t.kids.length
  ·have hin := ih t.kids[i] (List.getElem_mem hi) (h4 _ (List.getElem_mem hi))
   repeat' (first | refine nxt ?_ | ((first | refine zqh fun K hK => ?_ | refine zqe (by decide +kernel) fun K hK => ?_ | refine zqr fun K hK => ?_ | refine zqt (hin) ?_); (simp (disch := omega) only [go_sem, Nat.reduceBEq, Nat.reduceEqDiff, ↓reduceIte, reduceCtorEq, Nat.reduceAdd, Nat.reduceLeDiff, q2, q3, q4, q6, qH0, qH1, qH2, z0l, cellsId])) | ((first | refine zqd _ rfl (fun hc => ?_) (fun hc => ?_) | refine zqm _ rfl (fun hc => ?_) (fun hc => ?_)) <;> (((try simp only [z06] at hc); (try omega)))) | refine zqu (by (simp (disch := omega) only [go_sem, Nat.reduceBEq, ↓reduceIte, Nat.reduceLeDiff, q4, qH2]); rfl) rfl ?_ | (refine hK _ ?_; clear hK K))
   ·have hf := zc5.1 ‹(findR id t.kids[i]).2 = true›
    rw [z74 (z4u hne hi qp2 hf) hf, ‹(findR id t.kids[i]).2 = true›]
    exact z1e (by simp only [pureD, pureD.pureL, z1z, Bool.and_self]) (Le.refl _)
   ·have hf := zf6.1 ‹(findR id t.kids[i]).2 = false›
    (refine Exists.intro _ (And.intro ?_ ⟨i + 1, rfl, ?_⟩)); rotate_left; (simp (disch := omega) only [go_sem, Nat.reduceBEq, Nat.reduceLeDiff, q2, q3, q4, q6, qH0, qH1, qH2, true_and, Int.natCast_add, Int.natCast_one, cellsId]); rotate_left
    ·omega
    ·refine ⟨by omega, by omega, fun j hj h => ?_⟩
     by_cases e : j = i
     ·subst e; exact hf
     ·exact qp2 j (by omega) h
  ·repeat' (first | refine nxt ?_ | ((refine zqh fun K hK => ?_); (simp (disch := omega) only [go_sem, Nat.reduceBEq, ↓reduceIte, reduceCtorEq, Nat.reduceAdd, Nat.reduceLeDiff, q2, q4, q6, qH0, qH2, z0l])) | (refine zqd _ rfl ?_ ?_ <;> intro hc <;> (((try simp only [z06] at hc); (try omega)))) | refine zqz ?_ | refine zqu (by (simp (disch := omega) only [go_sem, Nat.reduceBEq, ↓reduceIte, Nat.reduceAdd, Nat.reduceLeDiff, q4, qH2]); rfl) rfl ?_ | (refine hK _ ?_; clear hK K))
   rw [zb3 (zb2 hne (by omega) qp2)]
   exact z1e (by simp only [pureD, pureD.pureL, Bool.and_self]) (Le.tup ⟨zi6, Le.refl _, trivial⟩)
namespace Tr
theorem zkn {id : Idv} {t : T} {i : Nat} (h0 : ¬ t.id = id) (hi : i < t.kids.length) (h1 : ∀ j, (hj : j < i) -> (h : j < t.kids.length) -> z1q id t.kids[j] = []) (h2 : t.kids[i].id = id) : z6w id t = (t.id, (i : Int), true) := by
 have hw := z2l h2
 have hw2 := z4u h0 hi h1 (by rw [hw]; simp)
 rw [hw] at hw2
 have hn : z3j (fun k => !(z1q id k).isEmpty) t.kids = i := z3d (by omega) (fun j hj => by rw [h1 j hj (by omega)]; rfl) (fun h => by rw [hw]; rfl)
 unfold z6w
 simp only [hw2, List.length_cons, List.length_nil]
 rw [dif_neg (by omega)]
 simp only [show 0 + 1 + 1 - 2 = 0 from rfl, List.getElem_cons_zero, hn, hi, if_true]
theorem zu8 {id : Idv} {t : T} {i : Nat} (h0 : ¬ t.id = id) (hi : i < t.kids.length) (h1 : ∀ j, (hj : j < i) -> (h : j < t.kids.length) -> z1q id t.kids[j] = []) (h2 : ¬ t.kids[i].id = id) (h3 : z1q id t.kids[i] ≠ []) : z6w id t = z6w id t.kids[i] := by
 have hw2 := z4u h0 hi h1 h3
 have hl : 2 <= (z1q id t.kids[i]).length := by
  rw [za0, if_neg h2] at h3 ⊢
  split
  ·rename_i w hw
   have := List.find?_some hw
   cases w with
   | nil => simp at this
   | cons a w => simp
  ·rename_i hw; rw [hw] at h3; exact (h3 rfl).elim
 unfold z6w
 simp only [hw2, List.length_cons]
 rw [dif_neg (by omega), dif_neg (by omega)]
 have e : (z1q id t.kids[i]).length + 1 - 2 = (z1q id t.kids[i]).length - 2 + 1 := by omega
 simp only [e, List.getElem_cons_succ]
theorem zu9 {id : Idv} {t : T} (h : t.id = id) : zbw id t = [] := by unfold zbw; rw [z2l h]; rfl
theorem zya {id : Idv} {t : T} {i : Nat} (h0 : ¬ t.id = id) (hi : i < t.kids.length) (h1 : ∀ j, (hj : j < i) -> (h : j < t.kids.length) -> z1q id t.kids[j] = []) (h3 : z1q id t.kids[i] ≠ []) : zbw id t = zbw id t.kids[i] ++ [t.id] := by
 unfold zbw
 rw [z4u h0 hi h1 h3, List.dropLast_cons_of_ne_nil h3, List.map_cons, List.reverse_cons]
end Tr
end
section
open Abs Facts Tr Go.RowKit
namespace Abs
section
variable {α : Type} {f : α -> List D} {sz : Nat}
end
variable {P : Program}
theorem ziw {α : Type} {P : Program} {H : HM} {id e sz n : Nat} {f : α -> List D} {l : List α} (k : Nat) (hn : l.length = n) (hH : H id = some (.row e n (l.flatMap f))) (ha : z03 P e = true) (hs : z00 P e = sz) (h : ∀ x, (f x).length = sz) (hp : ∀ x, pureD.pureL (f x) = true) :
  z2p P H (k + 2) (.osl id n) = some (.rsl false sz (l.map fun x => .agg (f x))) := by
 subst hn
 exact z1s k hH ha hs h hp
theorem zuo {f : FuncId} {ds : List D} {H : HM} {nx : Nat} {K : D -> HM -> Nat -> Prop} (e : TypeId) (h : AC P f ds H nx fun r H' nx' => r = .nil /\ K (.osl nx' 0) (z0u H' nx' (some (.row e 0 []))) (nx' + 1)) : AC P f ds H nx K := by
 refine ⟨h.1, fun s w vs h1 h2 h3 h4 => (h.2 s w vs h1 h2 h3 h4).mono fun x w' ⟨v, r, s', he, ⟨hr, hK⟩, hstep, hRH, hrel⟩ => ?_⟩
 subst hr
 simp only [rel] at hrel
 subst hrel
 obtain ⟨g1, g2⟩ := z57 hRH (Grew.refl w') (.row e 0 []) (.slice none 0 0) (fun b hb => by cases hb) ⟨[], ⟨by simp, .inl ⟨rfl, rfl⟩⟩, z0f, by intro v hv; cases hv⟩
 refine ⟨.slice none 0 0, .osl s'.nx 0, s'.add (.slice none 0 0) (.row e 0 []), he, hK, hstep.trans g1, g2, ?_⟩
 simp only [rel]
 refine ⟨Nat.lt_succ_self _, ⟨none, 0, rfl⟩, fun e' k cs hH => ?_⟩
 simp only [RS.add, z0u, if_true, Option.some.injEq, HObj.row.injEq] at hH
 obtain ⟨_, rfl, _⟩ := hH
 exact ⟨Nat.le_refl _, fun _ => by simp [RS.add]⟩
theorem zha {st : St} {b off : Nat} {e : TypeId} {cs : List D} (e' : TypeId) (hb : st.H b = some (.box e cs)) (hoff : cs[off]? = some .nil) :
  SealTo P st { st with H := z0u (z0u st.H st.nx (some (.row e' 0 []))) b (some (.box e (cs.set off (.osl st.nx 0)))), nx := st.nx + 1 } := by
 intro N s a w hf
 have hHb : s.H b = some (.box e cs) := by rw [hf.H]; exact hb
 have hne : b ≠ s.nx := by have := (hf.heap.obj b _ hHb).1; omega
 obtain ⟨g1, g2⟩ := z57 hf.heap (Grew.refl w) (.row e' 0 []) (.slice none 0 0) (fun b hb => by cases hb) ⟨[], ⟨by simp, .inl ⟨rfl, rfl⟩⟩, z0f, by intro v hv; cases hv⟩
 have hb2 : (s.add (.slice none 0 0) (.row e' 0 [])).H b = some (.box e cs) := by simp [RS.add, z0u, hne, hHb]
 obtain ⟨_, q2⟩ := g2.obj b _ hb2
 obtain ⟨g3, g4⟩ := z4i (w' := w) g2 b _ (.box e (cs.set off (.osl s.nx 0))) ((s.add (.slice none 0 0) (.row e' 0 [])).κ b) hb2 rfl rfl rfl (Nat.le_refl _) (fun _ _ _ => rfl) (.inr ⟨_, rfl, rfl⟩) (fun b hb => .inl hb) (fun hl => by
  obtain ⟨b', vs, u1, u2, u3, u4⟩ := q2
  refine ⟨b', vs, u1, u2, ?_, u4⟩
  have hlen := z02 u3
  refine z40 (by rw [List.length_set]; exact hlen) fun i d v V hv => ?_
  rw [List.getElem?_set] at V
  split at V
  ·rename_i hio
   subst hio
   split at V
   ·cases V
    obtain ⟨v', hv', hr⟩ := z1f u3 _ _ hoff
    rw [hv'] at hv
    cases hv
    simp only [rel] at hr ⊢
    subst hr
    refine ⟨by simp [RS.set, RS.add], ⟨_, _, rfl⟩, fun e2 k cs hH => ⟨Nat.zero_le _, fun _ => ?_⟩⟩
    simp only [RS.set, RS.add]
    rw [if_neg (fun h => hne h.symm)]
    simp
   ·cases V
  ·obtain ⟨v', hv', hr⟩ := z1f u3 _ _ V
   rw [hv'] at hv
   cases hv
   exact rel.later hl _ _ hr)
 refine ⟨_, ⟨?_, ?_, hf.size, hf.defers, fun i => rel.later (g1.trans g3).later _ _ (hf.tmps i), g4⟩, g1.trans g3⟩
 ·simp only [RS.set, RS.add, hf.H, hf.nx]
 ·simp only [RS.set, RS.add, hf.nx]
theorem z22 {N id : Nat} {l : List Oper} {b : Code} {own : List Nat} {Q : Exit -> St -> Prop} {st : St} (_hid : (id == N) = false) (h : ∀ K : St -> Prop, (∀ st, awp P own b Q st -> K st) -> z1p P own (l.map (·.dst)) l K st) : awp P own (.seq (.region id l.toArray false) b) Q st := zqh h
theorem zix {N id : Nat} {l : List Oper} {b : Code} {own : List Nat} {Q : Exit -> St -> Prop} {st : St} (_hid : (id == N) = false) (h0 : zhp own l.toArray = true) (h : ∀ K : St -> Prop, (∀ st, awp P own b Q st -> K st) -> z2o P own (l.map (·.dst)) l K st) : awp P own (.seq (.region id l.toArray true) b) Q st := zqe h0 h
end Abs
end
section
open Abs Facts Tr
attribute [local irreducible] awp
namespace Tr
end Tr
namespace Tr
theorem zyb (k : Int) : (zmq k ≠ z76) ↔ (0 <= k /\ k <= 7) := by
 by_cases h : 0 <= k /\ k < 8
 ·have : zmq k ≠ z76 := by
   rcases kind8 h with rfl | rfl | rfl | rfl | rfl | rfl | rfl | rfl <;> decide
  exact ⟨fun _ => by omega, fun _ => this⟩
 ·have : zmq k = z76 := if_neg h
  exact ⟨fun h2 => absurd this h2, fun h2 => by omega⟩
theorem zua (t : T) : (ownB t && decide (t.kids.length <= 64)) = zl0 t := by
 unfold ownB zl0
 by_cases h0 : t.kind = 0
 ·rw [if_pos h0, if_pos h0, decide_eq_true (show 0 <= t.kind /\ t.kind <= 7 by omega)]
  by_cases h1 : t.head.length = 0
  ·by_cases h2 : t.words.length = 0
   ·have e1 : zog t.head = true := by unfold zog; rw [List.eq_nil_of_length_eq_zero h1]; rfl
    have e2 : zog t.words = true := by unfold zog; rw [List.eq_nil_of_length_eq_zero h2]; rfl
    rw [e1, e2, decide_eq_true h1, decide_eq_true h2, decide_eq_true (show t.head.length + t.words.length = 0 by omega)]
    simp [Bool.and_comm]
   ·rw [decide_eq_false h2, decide_eq_false (show ¬ t.head.length + t.words.length = 0 by omega)]; simp
  ·rw [decide_eq_false h1, decide_eq_false (show ¬ t.head.length + t.words.length = 0 by omega)]; simp
 ·rw [if_neg h0, if_neg h0]
  have : decide (zmq t.kind ≠ z76) = decide (0 <= t.kind /\ t.kind <= 7) := decide_eq_decide.2 (zyb t.kind)
  rw [this]
  cases decide (0 <= t.kind /\ t.kind <= 7) <;> cases z87 t.label <;> cases zog t.head <;> cases zog t.words <;> cases decide (t.kids.length <= 64) <;> rfl
theorem zub (f : T -> Bool) (t : T) : (nodesT t).all f = (f t && t.kids.all fun k => (nodesT k).all f) := by
 rw [z15, List.all_cons, List.all_flatMap]
theorem zh3 {α : Type} {f g : α -> Bool} : ∀ {l : List α}, (∀ x ∈ l, f x = g x) -> l.all f = l.all g
 | [], _ => rfl
 | x :: l, h => by rw [List.all_cons, List.all_cons, h x (by simp), zh3 fun y hy => h y (List.mem_cons_of_mem _ hy)]
theorem zmp : ∀ t : T, (nodesT t).all zes = zb8 t := by
 refine z53 fun t ih => ?_
 rw [zub, zh3 ih, zfe, <- zua]
 unfold zes
 cases ownB t <;> cases (t.kids.all fun k => z4z t.kind k.kind) <;> cases decide ((t.kids.map ze6).Nodup) <;> cases decide (t.kids.length <= 64) <;> cases t.kids.all zb8 <;> rfl
end Tr
theorem zik (t : T) (hs : szB t = true) (hc : cntT t <= 1000000000) (V : depT t <= 1000000000) : PC prog 39 [z1o t] (.bool (z8n t)) := by
 have h := zt1 t hs hc V
 rw [zmp] at h
 exact h
end
end Go.Proofs.YtfechgagcgbldaaDoor
namespace Go.Proofs.YtfechgagcgbldaaDoor.Lcs
section
variable {α : Type} [DecidableEq α]
def row (x : α) (f : List α -> Nat) : List α -> Nat
 | [] => 0
 | y :: ys => if x = y then max (max (f (y :: ys)) (row x f ys)) (f ys + 1) else max (f (y :: ys)) (row x f ys)
def len : List α -> List α -> Nat
 | [], _ => 0
 | x :: xs, ys => row x (len xs) ys
theorem zum : ∀ (a : List α), len a [] = 0
 | [] => rfl
 | _ :: _ => rfl
theorem ze5 (x y : α) (xs ys : List α) : len (x :: xs) (y :: ys) = if x = y then max (max (len xs (y :: ys)) (len (x :: xs) ys)) (len xs ys + 1) else max (len xs (y :: ys)) (len (x :: xs) ys) := rfl
def at_ (a b : List α) (i k : Nat) : Nat := len (a.drop i) (b.drop k)
theorem zmv (a b : List α) (i k : Nat) (h : a.length <= i) : at_ a b i k = 0 := by unfold at_; rw [List.drop_eq_nil_of_le h]; rfl
theorem zun (a b : List α) (i k : Nat) (h : b.length <= k) : at_ a b i k = 0 := by unfold at_; rw [List.drop_eq_nil_of_le h]; exact zum _
theorem at_step (a b : List α) (i k : Nat) (hi : i < a.length) (O : k < b.length) :
  at_ a b i k = if a[i] = b[k] then max (max (at_ a b (i + 1) k) (at_ a b i (k + 1))) (at_ a b (i + 1) (k + 1) + 1) else max (at_ a b (i + 1) k) (at_ a b i (k + 1)) := by
 unfold at_
 rw [List.drop_eq_getElem_cons hi, List.drop_eq_getElem_cons O, ze5]
theorem ziv : ∀ (a b : List α), len a b <= a.length
 | [], _ => Nat.le_refl 0
 | x :: xs, b => by
  have ih := ziv xs
  have key : ∀ b : List α, len (x :: xs) b <= xs.length + 1 := by
   intro b
   induction b with
   | nil => exact Nat.zero_le _
   | cons y ys ihb =>
    rw [ze5]
    have h1 := ih (y :: ys)
    have h2 := ih ys
    split <;> omega
  simpa using key b
theorem at_le (a b : List α) (i k : Nat) : at_ a b i k <= a.length := by
 have := ziv (a.drop i) (b.drop k)
 simp only [List.length_drop] at this
 unfold at_; omega

def tab (a b : List α) : List Int := (List.range ((a.length + 1) * (b.length + 1))).map fun p => (at_ a b (p / (b.length + 1)) (p % (b.length + 1)) : Int)
theorem idx_lt {n w i k : Nat} (hi : i < n) (O : k < w) : i * w + k < n * w := by
 have := Nat.mul_le_mul_right w (show i + 1 <= n by omega)
 rw [Nat.add_mul] at this; omega
theorem idx_inj {w i k i' k' : Nat} (O : k < w) (hk' : k' < w) (h : i * w + k = i' * w + k') : i = i' /\ k = k' := by
 have h1 : (i * w + k) / w = i := by rw [Nat.mul_comm, Nat.mul_add_div (by omega), Nat.div_eq_of_lt O]; omega
 have h2 : (i' * w + k') / w = i' := by rw [Nat.mul_comm, Nat.mul_add_div (by omega), Nat.div_eq_of_lt hk']; omega
 have : i = i' := by rw [<- h1, <- h2, h]
 subst this
 exact ⟨rfl, by omega⟩
theorem tab_len (a b : List α) : (tab a b).length = (a.length + 1) * (b.length + 1) := by simp [tab]
theorem tab_get (a b : List α) (i k : Nat) (hi : i <= a.length) (O : k <= b.length) : (tab a b)[i * (b.length + 1) + k]? = some (at_ a b i k : Int) := by
 have hlt : i * (b.length + 1) + k < (a.length + 1) * (b.length + 1) := idx_lt (by omega) (by omega)
 unfold tab
 rw [List.getElem?_map, List.getElem?_range hlt, Option.map_some]
 have h1 : (i * (b.length + 1) + k) / (b.length + 1) = i := by rw [Nat.mul_comm, Nat.mul_add_div (by omega), Nat.div_eq_of_lt (by omega)]; omega
 have h2 : (i * (b.length + 1) + k) % (b.length + 1) = k := by rw [Nat.mul_comm, Nat.mul_add_mod, Nat.mod_eq_of_lt (by omega)]
 rw [h1, h2]

def Known (a b : List α) (cs : List Int) (i k : Nat) : Prop :=
 cs.length = (a.length + 1) * (b.length + 1) /\ ∀ i' k', i' <= a.length -> k' <= b.length -> (i < i' \/ (i = i' /\ k <= k') \/ k' = b.length) -> cs[i' * (b.length + 1) + k']? = some (at_ a b i' k' : Int)
theorem known_zero (a b : List α) : Known a b (List.replicate ((a.length + 1) * (b.length + 1)) 0) a.length 0 := by
 refine ⟨by simp, fun i' k' hi O h => ?_⟩
 have hlt : i' * (b.length + 1) + k' < (a.length + 1) * (b.length + 1) := idx_lt (by omega) (by omega)
 rw [List.getElem?_replicate_of_lt hlt]
 rcases h with h | h | h
 ·omega
 ·rw [zmv a b i' k' (by omega)]; rfl
 ·rw [zun a b i' k' (by omega)]; rfl
theorem known_set {a b : List α} {cs : List Int} {i k : Nat} (hi : i <= a.length) (O : k <= b.length) (h : Known a b cs i (k + 1)) : Known a b (cs.set (i * (b.length + 1) + k) (at_ a b i k : Int)) i k := by
 refine ⟨by simpa using h.1, fun i' k' hi' hk' hc => ?_⟩
 have hlt : i * (b.length + 1) + k < cs.length := by rw [h.1]; exact idx_lt (by omega) (by omega)
 by_cases he : i * (b.length + 1) + k = i' * (b.length + 1) + k'
 ·obtain ⟨rfl, rfl⟩ := idx_inj (by omega) (by omega) he
  rw [List.getElem?_set_self hlt]
 ·rw [List.getElem?_set_ne he]
  refine h.2 i' k' hi' hk' ?_
  rcases hc with hc | ⟨rfl, hc⟩ | hc
  ·exact .inl hc
  ·by_cases hkk : k = k'
   ·subst hkk; exact (he rfl).elim
   ·exact .inr (.inl ⟨rfl, by omega⟩)
  ·exact .inr (.inr hc)
theorem known_row {a b : List α} {cs : List Int} {i : Nat} (h : Known a b cs (i + 1) 0) : Known a b cs i b.length :=
 ⟨h.1, fun i' k' hi' hk' hc => h.2 i' k' hi' hk' (by omega)⟩
theorem known_all {a b : List α} {cs : List Int} (h : Known a b cs 0 0) : cs = tab a b := by
 refine List.ext_getElem? fun p => ?_
 by_cases hp : p < (a.length + 1) * (b.length + 1)
 ·have hw : 0 < b.length + 1 := by omega
  have h1 : p / (b.length + 1) <= a.length := by
   have := (Nat.div_lt_iff_lt_mul hw).2 hp; omega
  have h2 : p % (b.length + 1) <= b.length := by have := Nat.mod_lt p hw; omega
  have h3 : p / (b.length + 1) * (b.length + 1) + p % (b.length + 1) = p := Nat.div_add_mod' p _
  have h4 := h.2 _ _ h1 h2 (by
   rcases Nat.eq_zero_or_pos (p / (b.length + 1)) with h0 | h0
   ·exact .inr (.inl ⟨h0.symm, Nat.zero_le _⟩)
   ·exact .inl h0)
  have h5 := tab_get a b _ _ h1 h2
  rw [h3] at h4 h5
  rw [h4, h5]
 ·rw [List.getElem?_eq_none (by rw [h.1]; omega), List.getElem?_eq_none (by rw [tab_len]; omega)]

def good (a b : List α) (n x y : Nat) : Bool := decide (a[x]? = b[y]?) && decide (at_ a b (x + 1) (y + 1) + 1 = n)
def inRow (a b : List α) (n x y : Nat) : Option Nat := (List.range' y (b.length - y)).find? (good a b n x)
def search (a b : List α) (n k x : Nat) : Option (Nat × Nat) := (List.range' x (a.length - x)).findSome? fun x => (inRow a b n x k).map fun y => (x, y)
def next (a b : List α) (i k : Nat) : Nat × Nat := (search a b (at_ a b i k) k i).getD (a.length, b.length)
theorem inRow_end (a b : List α) (n x y : Nat) (h : b.length <= y) : inRow a b n x y = none := by
 unfold inRow; rw [show b.length - y = 0 by omega]; rfl
theorem inRow_step (a b : List α) (n x y : Nat) (h : y < b.length) : inRow a b n x y = if good a b n x y = true then some y else inRow a b n x (y + 1) := by
 unfold inRow
 rw [show b.length - y = (b.length - (y + 1)) + 1 by omega, List.range'_succ, List.find?_cons]
 split <;> simp_all
theorem search_end (a b : List α) (n k x : Nat) (h : a.length <= x) : search a b n k x = none := by
 unfold search; rw [show a.length - x = 0 by omega]; rfl
theorem search_step (a b : List α) (n k x : Nat) (h : x < a.length) : search a b n k x = match inRow a b n x k with | some y => some (x, y) | none => search a b n k (x + 1) := by
 unfold search
 rw [show a.length - x = (a.length - (x + 1)) + 1 by omega, List.range'_succ, List.findSome?_cons]
 cases inRow a b n x k <;> rfl
theorem good_ex (a b : List α) : ∀ (m i k n : Nat), a.length - i + (b.length - k) <= m -> at_ a b i k = n + 1 -> ∃ x y, i <= x /\ x < a.length /\ k <= y /\ y < b.length /\ good a b (n + 1) x y = true := by
 intro m
 induction m with
 | zero => intro i k n hm h; rw [zmv a b i k (by omega)] at h; omega
 | succ m ih =>
  intro i k n hm h
  by_cases hi : i < a.length
  ·by_cases O : k < b.length
   ·have hs := at_step a b i k hi O
    have r1 : at_ a b (i + 1) k = n + 1 -> ∃ x y, i <= x /\ x < a.length /\ k <= y /\ y < b.length /\ good a b (n + 1) x y = true := by
     intro h1
     obtain ⟨x, y, q1, q2, q3, q4, q5⟩ := ih (i + 1) k n (by omega) h1
     exact ⟨x, y, by omega, q2, q3, q4, q5⟩
    have r2 : at_ a b i (k + 1) = n + 1 -> ∃ x y, i <= x /\ x < a.length /\ k <= y /\ y < b.length /\ good a b (n + 1) x y = true := by
     intro h1
     obtain ⟨x, y, q1, q2, q3, q4, q5⟩ := ih i (k + 1) n (by omega) h1
     exact ⟨x, y, q1, q2, by omega, q4, q5⟩
    by_cases he : a[i] = b[k]
    ·rw [if_pos he] at hs
     by_cases h3 : at_ a b (i + 1) (k + 1) + 1 = n + 1
     ·refine ⟨i, k, Nat.le_refl _, hi, Nat.le_refl _, O, ?_⟩
      unfold good
      rw [List.getElem?_eq_getElem hi, List.getElem?_eq_getElem O, he]
      simp [h3]
     ·by_cases h1 : at_ a b (i + 1) k = n + 1
      ·exact r1 h1
      ·exact r2 (by clear r1 r2 ih; omega)
    ·rw [if_neg he] at hs
     by_cases h1 : at_ a b (i + 1) k = n + 1
     ·exact r1 h1
     ·exact r2 (by clear r1 r2 ih; omega)
   ·rw [zun a b i k (by omega)] at h; omega
  ·rw [zmv a b i k (by omega)] at h; omega
theorem zr6 {a b : List α} {n x k y : Nat} (h : inRow a b n x k = some y) : k <= y /\ y < b.length /\ good a b n x y = true := by
 unfold inRow at h
 have h1 := List.mem_of_find?_eq_some h
 have h2 := List.find?_some h
 simp only [List.mem_range'_1] at h1
 exact ⟨by omega, by omega, h2⟩
theorem zmw {a b : List α} {n k i : Nat} {r : Nat × Nat} (h : search a b n k i = some r) : i <= r.1 /\ r.1 < a.length /\ k <= r.2 /\ r.2 < b.length /\ good a b n r.1 r.2 = true := by
 unfold search at h
 obtain ⟨x, hx, hr⟩ := List.exists_of_findSome?_eq_some h
 simp only [List.mem_range'_1] at hx
 simp only [Option.map_eq_some_iff] at hr
 obtain ⟨y, hy, rfl⟩ := hr
 obtain ⟨q1, q2, q3⟩ := zr6 hy
 exact ⟨by omega, by omega, q1, q2, q3⟩
theorem zmx {a b : List α} {n k i : Nat} (h : search a b n k i = none) {x y : Nat} (hx : i <= x) (hx' : x < a.length) (hy : k <= y) (hy' : y < b.length) : good a b n x y = false := by
 unfold search at h
 rw [List.findSome?_eq_none_iff] at h
 have h1 := h x (by simp only [List.mem_range'_1]; omega)
 simp only [Option.map_eq_none_iff] at h1
 unfold inRow at h1
 rw [List.find?_eq_none] at h1
 have := h1 y (by simp only [List.mem_range'_1]; omega)
 simpa using this
theorem next_good (a b : List α) (i k n : Nat) (h : at_ a b i k = n + 1) : i <= (next a b i k).1 /\ (next a b i k).1 < a.length /\ k <= (next a b i k).2 /\ (next a b i k).2 < b.length /\ a[(next a b i k).1]? = b[(next a b i k).2]? /\ at_ a b ((next a b i k).1 + 1) ((next a b i k).2 + 1) = n := by
 unfold next
 cases hs : search a b (at_ a b i k) k i with
 | none =>
  obtain ⟨x, y, q1, q2, q3, q4, q5⟩ := good_ex a b _ i k n (Nat.le_refl _) h
  rw [h] at hs
  rw [zmx hs q1 q2 q3 q4] at q5; cases q5
 | some r =>
  obtain ⟨q1, q2, q3, q4, q5⟩ := zmw hs
  unfold good at q5
  simp only [Bool.and_eq_true, decide_eq_true_eq] at q5
  rw [Option.getD_some]
  exact ⟨q1, q2, q3, q4, q5.1, by omega⟩
def pairsF (a b : List α) : Nat -> Nat -> Nat -> List (Nat × Nat)
 | 0, _, _ => []
 | n + 1, i, k => next a b i k :: pairsF a b n ((next a b i k).1 + 1) ((next a b i k).2 + 1)
def pairsFrom (a b : List α) (i k : Nat) : List (Nat × Nat) := pairsF a b (at_ a b i k) i k
theorem pairsFrom_nil (a b : List α) (i k : Nat) (h : at_ a b i k = 0) : pairsFrom a b i k = [] := by unfold pairsFrom; rw [h]; rfl
theorem pairsFrom_cons (a b : List α) (i k : Nat) (h : 0 < at_ a b i k) : pairsFrom a b i k = next a b i k :: pairsFrom a b ((next a b i k).1 + 1) ((next a b i k).2 + 1) := by
 obtain ⟨n, hn⟩ : ∃ n, at_ a b i k = n + 1 := ⟨at_ a b i k - 1, by omega⟩
 have h1 := (next_good a b i k n hn).2.2.2.2.2
 unfold pairsFrom
 rw [hn, h1]; rfl
def pairs (a b : List α) : List (Nat × Nat) := if 256 < a.length \/ 256 < b.length then [] else pairsFrom a b 0 0
end
end Go.Proofs.YtfechgagcgbldaaDoor.Lcs
namespace Go.Proofs.YtfechgagcgbldaaDoor.Lcs
variable {α : Type} [DecidableEq α]
theorem zjb : ∀ (n : Nat) (a b : List α), a.length + b.length <= n -> ∃ s : List α, s.Sublist a /\ s.Sublist b /\ s.length = len a b
 | _, [], b, _ => ⟨[], List.Sublist.refl _, List.nil_sublist _, rfl⟩
 | _, x :: xs, [], _ => ⟨[], List.nil_sublist _, List.Sublist.refl _, by rw [zum]; rfl⟩
 | 0, x :: xs, y :: ys, h => by simp at h
 | n + 1, x :: xs, y :: ys, h => by
  simp only [List.length_cons] at h
  obtain ⟨s1, h1, h2, h3⟩ := zjb n xs (y :: ys) (by simp only [List.length_cons]; omega)
  obtain ⟨s2, g1, g2, g3⟩ := zjb n (x :: xs) ys (by simp only [List.length_cons]; omega)
  obtain ⟨s3, k1, k2, k3⟩ := zjb n xs ys (by omega)
  rw [ze5]
  split
  ·rename_i he
   subst he
   by_cases c1 : len xs ys + 1 <= max (len xs (x :: ys)) (len (x :: xs) ys)
   ·by_cases c2 : len (x :: xs) ys <= len xs (x :: ys)
    ·exact ⟨s1, h1.cons _, h2, by omega⟩
    ·exact ⟨s2, g1, g2.cons _, by omega⟩
   ·exact ⟨x :: s3, k1.cons_cons _, k2.cons_cons _, by simp only [List.length_cons]; omega⟩
  ·by_cases c2 : len (x :: xs) ys <= len xs (y :: ys)
   ·exact ⟨s1, h1.cons _, h2, by omega⟩
   ·exact ⟨s2, g1, g2.cons _, by omega⟩
theorem zjc : ∀ (n : Nat) (a b s : List α), a.length + b.length <= n -> s.Sublist a -> s.Sublist b -> s.length <= len a b
 | _, [], b, s, _, h1, _ => by have := List.Sublist.length_le h1; simp at this; simp [this]
 | _, x :: xs, [], s, _, _, h2 => by have := List.Sublist.length_le h2; simp at this; simp [this]
 | 0, x :: xs, y :: ys, s, h, _, _ => by simp at h
 | n + 1, x :: xs, y :: ys, s, h, h1, h2 => by
  simp only [List.length_cons] at h
  have hc := ze5 x y xs ys
  cases h1 with
  | cons _ h1 =>
   have := zjc n xs (y :: ys) s (by simp only [List.length_cons]; omega) h1 h2
   rw [hc]; split <;> omega
  | cons_cons _ h1 =>
   rename_i s'
   cases h2 with
   | cons _ h2 =>
    have := zjc n (x :: xs) ys (x :: s') (by simp only [List.length_cons]; omega) (h1.cons_cons x) h2
    rw [hc]; split <;> omega
   | cons_cons _ h2 =>
    have := zjc n xs ys s' (by omega) h1 h2
    rw [hc, if_pos rfl]
    simp only [List.length_cons]; omega
theorem len_ge (a b s : List α) (h1 : s.Sublist a) (h2 : s.Sublist b) : s.length <= len a b := zjc _ a b s (Nat.le_refl _) h1 h2
theorem len_ex (a b : List α) : ∃ s : List α, s.Sublist a /\ s.Sublist b /\ s.length = len a b := zjb _ a b (Nat.le_refl _)
theorem zz4 (a b : List α) : len a b = len b a := by
 obtain ⟨s, h1, h2, h3⟩ := len_ex a b
 obtain ⟨t, k1, k2, k3⟩ := len_ex b a
 have := len_ge b a s h2 h1
 have := len_ge a b t k2 k1
 omega
theorem len_le2 (a b : List α) : len a b <= b.length := by rw [zz4]; exact ziv b a
theorem zbn (a b : List α) : ∀ n i k, (pairsF a b n i k).length = n
 | 0, _, _ => rfl
 | n + 1, i, k => by simp [pairsF, zbn a b n]
theorem zlq (a b : List α) (ha : a.length <= 256) (hb : b.length <= 256) : (pairs a b).length = len a b := by
 unfold pairs
 rw [if_neg (by omega)]
 unfold pairsFrom
 rw [zbn]
 simp [at_]
theorem zrz (a b : List α) (h : 256 < a.length \/ 256 < b.length) : pairs a b = [] := by unfold pairs; rw [if_pos h]
theorem pairs_le (a b : List α) : (pairs a b).length <= 256 /\ (pairs a b).length <= a.length /\ (pairs a b).length <= b.length := by
 by_cases h : 256 < a.length \/ 256 < b.length
 ·rw [zrz a b h]; simp
 ·rw [zlq a b (by omega) (by omega)]
  have := ziv a b; have := len_le2 a b
  omega
end Go.Proofs.YtfechgagcgbldaaDoor.Lcs
namespace Go.Proofs.YtfechgagcgbldaaDoor
section
open Abs
namespace Tr
def wov {α β γ : Type} (ga : α -> γ) (gb : β -> γ) (gs : α -> β -> γ) (a : List α) (b : List β) : List (Nat × Nat) -> Nat -> Nat -> List γ
 | [], i, k => (a.drop i).map ga ++ (b.drop k).map gb
 | (x, y) :: r, i, k => ((a.drop i).take (x - i)).map ga ++ (((b.drop k).take (y - k)).map gb ++ ((match a[x]?, b[y]? with | some u, some v => [gs u v] | _, _ => []) ++ wov ga gb gs a b r (x + 1) (y + 1)))
def Rise (n m : Nat) : List (Nat × Nat) -> Nat -> Nat -> Prop
 | [], i, k => i <= n /\ k <= m
 | (x, y) :: r, i, k => i <= x /\ k <= y /\ x < n /\ y < m /\ Rise n m r (x + 1) (y + 1)
theorem Rise.le {n m : Nat} : ∀ {l : List (Nat × Nat)} {i k : Nat}, Rise n m l i k -> i <= n /\ k <= m
 | [], _, _, h => h
 | (x, y) :: r, _, _, ⟨h1, h2, h3, h4, _⟩ => ⟨by omega, by omega⟩
def mg {γ : Type} (s : Idv -> Bool) (ga : T -> γ) : List T -> List (Idv × γ) -> List γ
 | [], b => b.map (·.2)
 | x :: a, b => if s x.id = true then ((b.takeWhile fun y => !s y.1).map (·.2) ++ match b.dropWhile fun y => !s y.1 with
   | [] => mg s ga a []
   | y :: q => y.2 :: mg s ga a q) else ga x :: mg s ga a b
def stW (n : Int) (s : ByteArray) : Tw := ⟨n, s⟩
def z4d (a b : List ByteArray) : List Tw := wov (stW 2) (stW 1) (fun s _ => stW 0 s) a b (Lcs.pairs a b) 0 0
def txt (l : List Wd) : List ByteArray := l.map (·.text)
def z16 (i : Idv) (t : T) : Bool := (findR i t).2
def phT (i : Idv) : TT := .mk 2 0 i ByteArray.empty ByteArray.empty true [] [] []
def zev (u : T) (ks : List TT) : TT := .mk 2 u.kind u.id u.label ByteArray.empty false ((txt u.head).map (stW 2)) ((txt u.words).map (stW 2)) ks
def z4y (B : T) : T -> TT := zg6 fun u ks => if z16 u.id B = true then phT u.id else zev u ks
def stayB (A B : T) (mv : Idv -> Bool) (i : Idv) : Bool := z16 i A && (z16 i B && !mv i)
def z4e (A : T) (mv : Idv -> Bool) (u : T) (ks : List TT) : TT :=
 .mk (if z16 u.id A = true /\ mv u.id = false then 0 else 1) u.kind u.id u.label
  (if z16 u.id A = true /\ (findR u.id A).1.label ≠ u.label then (findR u.id A).1.label else ByteArray.empty) (mv u.id)
  (z4d (txt (findR u.id A).1.head) (txt u.head)) (z4d (txt (findR u.id A).1.words) (txt u.words)) ks
def z44 (A B : T) (mv : Idv -> Bool) : T -> TT := zg6 fun u ks => z4e A mv u (mg (stayB A B mv) (z4y B) (findR u.id A).1.kids ((u.kids.map T.id).zip ks))
theorem zdt (B u : T) : z4y B u = if z16 u.id B = true then phT u.id else zev u (u.kids.map (z4y B)) := z3m _ u
theorem zo2 {α β γ : Type} (f : α -> β) (g : α -> γ) : ∀ l : List α, (l.map f).zip (l.map g) = l.map fun x => (f x, g x)
 | [] => rfl
 | x :: l => by simp [zo2 f g l]
theorem zan (A B : T) (mv : Idv -> Bool) (u : T) : z44 A B mv u = z4e A mv u (mg (stayB A B mv) (z4y B) (findR u.id A).1.kids (u.kids.map fun k => (k.id, z44 A B mv k))) := by
 rw [z44, z3m, <- z44, zo2]
def zby (t : TT) : List TT := zii (fun t l => t :: l.flatten) t
theorem zgv (t : TT) : zby t = t :: (t.kids.map zby).flatten := ze1 _ t
theorem z9y {γ : Type} (s : Idv -> Bool) (ga : T -> γ) : ∀ (a : List T) (b : List (Idv × γ)), (mg s ga a b).Perm ((a.filter fun x => !s x.id).map ga ++ b.map (·.2))
 | [], b => by simp [mg]
 | x :: a, b => by
  unfold mg
  by_cases hx : s x.id = true
  ·rw [if_pos hx, List.filter_cons_of_neg (by simp [hx])]
   have hb := List.takeWhile_append_dropWhile (p := fun y : Idv × γ => !s y.1) (l := b)
   generalize b.takeWhile (fun y => !s y.1) = p at *
   cases hq : b.dropWhile (fun y => !s y.1) with
   | nil =>
    rw [hq] at hb
    simp only [List.append_nil] at hb
    subst hb
    have := z9y s ga a []
    simp only [List.map_nil, List.append_nil] at this
    exact (List.Perm.append_left _ this).trans List.perm_append_comm
   | cons y q =>
    rw [hq] at hb
    subst hb
    simp only [List.map_append, List.map_cons]
    have := z9y s ga a q
    refine (List.Perm.append_left _ (List.Perm.cons _ this)).trans ?_
    refine (List.Perm.append_left _ (List.perm_middle.symm)).trans ?_
    exact List.perm_append_comm_assoc _ _ _
  ·rw [if_neg hx, List.filter_cons_of_pos (by simpa using hx)]
   exact List.Perm.cons _ (z9y s ga a b)
end Tr
end
section
open Abs Facts Tr
attribute [local irreducible] awp
namespace Tr
end Tr
namespace Abs
end Abs
namespace Tr
theorem zgn (deep most : Int) : ∀ (l : List T), (∀ k ∈ l, ∀ (d m : Int), 0 <= m -> 1 <= z3e k d m) -> ∀ n : Int, n <= z34 deep most (l.map z3e) n
 | [], _, n => by simp [z34]
 | k :: l, h, n => by
  simp only [List.map_cons, z34]
  split
  ·have h1 := h k (by simp) (deep + 1) (most - n) (by omega)
   have h2 := zgn deep most l (fun q hq => h q (List.mem_cons_of_mem _ hq)) (n + z3e k (deep + 1) (most - n))
   omega
  ·omega
theorem zee (deep most : Int) : ∀ (l : List T), (∀ k ∈ l, ∀ (m : Int), 0 <= m -> z3e k (deep + 1) m <= m -> (cntT k : Int) = z3e k (deep + 1) m /\ deep + 1 + depT k <= 20) -> ∀ n : Int, z34 deep most (l.map z3e) n <= most ->
  ((l.flatMap nodesT).length : Int) + n = z34 deep most (l.map z3e) n /\ ∀ k ∈ l, deep + 1 + depT k <= 20
 | [], _, n, _ => by simp [z34]
 | k :: l, h, n, hn => by
  simp only [List.map_cons, z34] at hn ⊢
  split at hn
  ·rename_i hle
   rw [if_pos hle]
   have hm := zgn deep most l (fun q _ d m hm => (z6i q d m hm).1) (n + z3e k (deep + 1) (most - n))
   obtain ⟨h1, h2⟩ := h k (by simp) (most - n) (by omega) (by omega)
   obtain ⟨h3, h4⟩ := zee deep most l (fun q hq => h q (List.mem_cons_of_mem _ hq)) _ hn
   refine ⟨?_, fun q hq => ?_⟩
   ·rw [List.flatMap_cons, List.length_append]
    have : (nodesT k).length = cntT k := rfl
    omega
   ·rcases List.mem_cons.1 hq with rfl | hq
    ·exact h2
    ·exact h4 q hq
  ·omega
theorem zpm (l : List T) (d : Int) (b : Int) (hb : d <= b) (h : ∀ k ∈ l, d + 1 + depT k <= b) : ∀ a : Nat, d + a <= b -> d + ((l.map depT).foldl (fun d x => max d (1 + x)) a : Nat) <= b := by
 induction l with
 | nil => intro a ha; simpa using ha
 | cons k l ih =>
  intro a ha
  rw [List.map_cons, List.foldl_cons]
  have := h k (by simp)
  exact ih (fun q hq => h q (List.mem_cons_of_mem _ hq)) _ (by omega)
theorem zm3 : ∀ t : T, ∀ (deep most : Int), 0 <= most -> z3e t deep most <= most -> (cntT t : Int) = z3e t deep most /\ deep + depT t <= 20 := by
 refine z53 fun t ih deep most hm h => ?_
 rw [zir] at h ⊢
 split at h
 ·omega
 ·rename_i V
  rw [if_neg V]
  obtain ⟨h1, h2⟩ := zee deep most t.kids (fun k O m hm h => ih k O (deep + 1) m hm h) 1 h
  refine ⟨?_, ?_⟩
  ·rw [za2]; omega
  ·rw [zmo]
   exact zpm t.kids deep 20 (by omega) h2 0 (by omega)
theorem zwt (t : T) : t.kids.length <= cntT t := by
 rw [za2]
 have : ∀ l : List T, l.length <= (l.flatMap nodesT).length := by
  intro l
  induction l with
  | nil => simp
  | cons k l ih =>
   rw [List.flatMap_cons, List.length_append, List.length_cons]
   have := cnt_pos k
   unfold cntT at this
   omega
 have := this t.kids
 omega
theorem zsg (l : List Wd) : z8k l = true ↔ (∀ w ∈ l, w.text.size <= 100) /\ l.length <= 300 := by
 unfold z8k
 simp only [Bool.and_eq_true, List.all_eq_true, decide_eq_true_eq]
theorem zwu : ∀ t : T, zf8 t = true -> cntT t <= 1000000 -> szB t = true := by
 refine z53 fun t ih h hc => ?_
 rw [zkq] at h
 simp only [Bool.and_eq_true, decide_eq_true_eq, List.all_eq_true, zsg] at h
 obtain ⟨h1, ⟨h2, h3⟩, ⟨h4, h5⟩, h6⟩ := h
 rw [z3o]
 have O := zwt t
 refine ⟨by omega, by omega, fun w hw => ?_, by omega, fun w hw => ?_, by omega, fun k O => ih k O (h6 k O) ?_⟩
 ·have := h2 w hw; omega
 ·have := h4 w hw; omega
 ·have := zn7 O; omega
theorem few_sz {t : T} {most : Int} (h0 : 0 <= most) (h1 : most <= 1000) (h : zsd t most = true) : szB t = true /\ (cntT t : Int) <= most /\ depT t <= 20 := by
 unfold zsd at h
 simp only [Bool.and_eq_true, decide_eq_true_eq] at h
 obtain ⟨g1, g2⟩ := zm3 t 0 most h0 h.1
 exact ⟨zwu t h.2 (by omega), by omega, by omega⟩
end Tr
namespace Tr
end Tr
end
section
open Abs Facts Tr
namespace Tr
theorem z59 (id : Idv) : ∀ t : T, z1q id t = [] ↔ id ∉ idsT t := by
 refine z53 fun t ih => ?_
 rw [z2f, List.mem_cons, List.mem_flatMap]
 by_cases h0 : t.id = id
 ·rw [z2l h0]; simp [h0]
 ·rw [za0, if_neg h0]
  constructor
  ·intro h hm
   rcases hm with hm | ⟨k, O, hm⟩
   ·exact h0 hm.symm
   ·have hne : z1q id k ≠ [] := fun e => (ih k O).1 e hm
    split at h
    ·cases h
    ·rename_i hf
     have := List.find?_eq_none.1 hf (z1q id k) (List.mem_map.2 ⟨k, O, rfl⟩)
     simp at this
     exact hne this
  ·intro hm
   have : (t.kids.map (z1q id)).find? (fun w => !w.isEmpty) = none := by
    rw [List.find?_eq_none]
    intro w hw
    obtain ⟨k, O, rfl⟩ := List.mem_map.1 hw
    have := (ih k O).2 fun h => hm (.inr ⟨k, O, h⟩)
    rw [this]; simp
   rw [this]
theorem z9m {id : Idv} {t : T} : z1q id t ≠ [] ↔ id ∈ idsT t := by
 rw [ne_eq, z59, Classical.not_not]
theorem z63 {id : Idv} {t : T} (h0 : ¬ t.id = id) (h : z1q id t ≠ []) : ∃ i, ∃ hi : i < t.kids.length, (∀ j, (hj : j < i) -> (h : j < t.kids.length) -> z1q id t.kids[j] = []) /\ z1q id t.kids[i] ≠ [] /\ z1q id t = t :: z1q id t.kids[i] := by
 have hex : ∃ i, ∃ hi : i < t.kids.length, z1q id t.kids[i] ≠ [] := by
  rcases Classical.em (∃ i, ∃ hi : i < t.kids.length, z1q id t.kids[i] ≠ []) with h1 | h1
  ·exact h1
  ·exfalso
   refine h (zb2 h0 (Nat.le_refl _) fun j _ hj => ?_)
   rcases Classical.em (z1q id t.kids[j] = []) with h2 | h2
   ·exact h2
   ·exact (h1 ⟨j, hj, h2⟩).elim
 let p : Nat -> Prop := fun i => ∃ hi : i < t.kids.length, z1q id t.kids[i] ≠ []
 obtain ⟨i, hi, hmin⟩ : ∃ i, p i /\ ∀ j, j < i -> ¬ p j := by
  obtain ⟨i, hi⟩ := hex
  induction i using Nat.strongRecOn with
  | ind i ih =>
   rcases Classical.em (∃ j, j < i /\ p j) with ⟨j, hj, hp⟩ | h2
   ·exact ih j hj hp
   ·exact ⟨i, hi, fun j hj hp => h2 ⟨j, hj, hp⟩⟩
 obtain ⟨hl, hw⟩ := hi
 have h1 : ∀ j, (hj : j < i) -> (h : j < t.kids.length) -> z1q id t.kids[j] = [] := fun j hj h => by
  rcases Classical.em (z1q id t.kids[j] = []) with h2 | h2
  ·exact h2
  ·exact (hmin j hj ⟨h, h2⟩).elim
 exact ⟨i, hl, h1, hw, z4u h0 hl h1 hw⟩
theorem z90 {id : Idv} {t : T} (h : z1q id t ≠ []) : (z1q id t)[0]'(List.length_pos_iff.2 h) = t := by
 by_cases h0 : t.id = id
 ·simp only [z2l h0, List.getElem_cons_zero]
 ·obtain ⟨i, hi, _, _, hw⟩ := z63 h0 h
  simp only [hw, List.getElem_cons_zero]
theorem zo7 (id : Idv) : ∀ t : T, ∀ h : z1q id t ≠ [], ((z1q id t)[(z1q id t).length - 1]'(by have := List.length_pos_iff.2 h; omega)).id = id := by
 refine z53 fun t ih h => ?_
 by_cases h0 : t.id = id
 ·simp only [z2l h0, List.length_cons, List.length_nil, List.getElem_cons_zero]; exact h0
 ·obtain ⟨i, hi, _, hne, hw⟩ := z63 h0 h
  have h2 := ih _ (List.getElem_mem hi) hne
  have hp := List.length_pos_iff.2 hne
  simp only [hw, List.length_cons]
  have e : (z1q id t.kids[i]).length + 1 - 1 = (z1q id t.kids[i]).length - 1 + 1 := by omega
  simp only [e, List.getElem_cons_succ]
  exact h2
theorem zxs (id : Idv) : ∀ t : T, ∀ m, (hm : m < (z1q id t).length) -> z1q id ((z1q id t)[m]) = (z1q id t).drop m := by
 refine z53 fun t ih m hm => ?_
 have hne : z1q id t ≠ [] := fun h => by rw [h] at hm; simp at hm
 by_cases h0 : t.id = id
 ·have hw := z2l h0
  have : m = 0 := by rw [hw] at hm; simp at hm; omega
  subst this
  rw [z90 hne]; rfl
 ·obtain ⟨i, hi, _, O, hw⟩ := z63 h0 hne
  cases m with
  | zero => rw [z90 hne]; rfl
  | succ m =>
   have h2 := ih _ (List.getElem_mem hi) m (by rw [hw] at hm; simpa using hm)
   simp only [hw, List.getElem_cons_succ, List.drop_succ_cons]
   exact h2
theorem zq9 (id : Idv) (t : T) {x : T} (h : x ∈ z1q id t) : x.id ∈ idsT t := List.mem_map.2 ⟨x, zi5 id t x h, rfl⟩
theorem zc1 {t : T} (h : (idsT t).Nodup) : (∀ k ∈ t.kids, t.id ∉ idsT k) /\ (∀ k ∈ t.kids, (idsT k).Nodup) /\ ∀ i j, (hi : i < t.kids.length) -> (hj : j < t.kids.length) -> i ≠ j -> ∀ x ∈ idsT t.kids[i], x ∉ idsT t.kids[j] := by
 rw [z2f, List.nodup_cons] at h
 obtain ⟨h1, h2⟩ := h
 refine ⟨fun k O hm => h1 (List.mem_flatMap.2 ⟨k, O, hm⟩), fun k O => ?_, fun i j hi hj hij x hx hx2 => ?_⟩
 ·exact (List.pairwise_flatMap.1 h2).1 k O
 ·have hp := (List.pairwise_flatMap.1 h2).2
  rw [List.pairwise_iff_getElem] at hp
  rcases Nat.lt_or_gt_of_ne hij with h3 | h3
  ·exact hp i j hi hj h3 x hx x hx2 rfl
  ·exact hp j i hj hi h3 x hx2 x hx rfl
theorem zxt (id : Idv) : ∀ t : T, (idsT t).Nodup -> ∀ m, (hm : m < (z1q id t).length) -> z1q ((z1q id t)[m]).id t = (z1q id t).take (m + 1) := by
 refine z53 fun t ih hn m hm => ?_
 have hne : z1q id t ≠ [] := fun h => by rw [h] at hm; simp at hm
 by_cases h0 : t.id = id
 ·have hw := z2l h0
  have : m = 0 := by rw [hw] at hm; simp at hm; omega
  subst this
  rw [z90 hne, z2l rfl, hw]; rfl
 ·obtain ⟨i, hi, _, O, hw⟩ := z63 h0 hne
  cases m with
  | zero => rw [z90 hne, z2l rfl, hw]; rfl
  | succ m =>
   obtain ⟨g1, g2, g3⟩ := zc1 hn
   have hm' : m < (z1q id t.kids[i]).length := by rw [hw] at hm; simpa using hm
   have h2 := ih _ (List.getElem_mem hi) (g2 _ (List.getElem_mem hi)) m hm'
   have hx : ((z1q id t.kids[i])[m]).id ∈ idsT t.kids[i] := zq9 id _ (List.getElem_mem _)
   simp only [hw, List.getElem_cons_succ, List.take_succ_cons]
   rw [<- h2]
   refine z4u (fun e => g1 _ (List.getElem_mem hi) (by rw [e]; exact hx)) hi (fun j hj h => ?_) (by rw [h2]; intro e; have := congrArg List.length e; rw [List.length_take, List.length_nil] at this; omega)
   rw [z59]
   exact g3 i j hi h (by omega) _ hx
theorem zf4 {t : T} (hn : (idsT t).Nodup) {id : Idv} (hm : id ∈ idsT t) (h0 : ¬ t.id = id) : ∃ (x q : T) (i : Nat) (hi : i < q.kids.length), findR id t = (x, true) /\ x.id = id /\ z6w id t = (q.id, (i : Int), true) /\ findR q.id t = (q, true) /\ q.kids[i] = x /\
  (∃ hl : 0 < (zbw id t).length, (zbw id t)[0] = q.id /\ (zbw id t)[(zbw id t).length - 1]'(by omega) = t.id) /\ (zbw id t).drop 1 = zbw q.id t /\ x ∈ nodesT t /\ q ∈ nodesT t := by
 have hne := z9m.2 hm
 obtain ⟨_, _, _, O, hw0⟩ := z63 h0 hne
 have hlen : 2 <= (z1q id t).length := by
  have := List.length_pos_iff.2 O
  rw [hw0, List.length_cons]; omega
 obtain ⟨n, hnl⟩ : ∃ n, (z1q id t).length = n + 2 := ⟨(z1q id t).length - 2, by omega⟩
 have hq : n < (z1q id t).length := by omega
 have hx : n + 1 < (z1q id t).length := by omega
 have V := zxs id t n hq
 have hdl : (z1q id t).drop n = [(z1q id t)[n], (z1q id t)[n + 1]] := by
  rw [List.drop_eq_getElem_cons hq, List.drop_eq_getElem_cons hx, List.drop_eq_nil_of_le (by omega)]
 rw [hdl] at V
 have ht := zxt id t hn n hq
 have hl := zo7 id t hne
 have e1 : (z1q id t).length - 1 = n + 1 := by omega
 simp only [e1] at hl
 generalize hxe : (z1q id t)[n + 1] = x at V hl
 generalize hqe : (z1q id t)[n] = q at V ht
 have hqi : ¬ q.id = id := fun e => by rw [z2l e] at V; simp at V
 obtain ⟨i, hi, h1, h2, h3⟩ := z63 hqi (by rw [V]; simp)
 rw [V] at h3
 simp only [List.cons.injEq, true_and] at h3
 have hki : q.kids[i] = x := by
  have := z90 h2
  simp only [<- h3, List.getElem_cons_zero] at this
  exact this.symm
 refine ⟨x, q, i, hi, ?_, hl, ?_, ?_, hki, ⟨?_, ?_, ?_⟩, ?_, ?_, ?_⟩
 ·unfold findR
  rw [zaj _ hne]
  simp only [e1, hxe]
 ·have hf : z3j (fun k => !(z1q id k).isEmpty) q.kids = i := z3d (by omega) (fun j hj => by rw [h1 j hj (by omega)]; rfl) (fun h => by
   cases hz : z1q id q.kids[i] with
   | nil => exact (h2 hz).elim
   | cons a l => rfl)
  unfold z6w
  simp only [hnl]
  rw [dif_neg (by omega)]
  have e2 : n + 2 - 2 = n := by omega
  simp only [e2, hqe, hf, hi, if_true]
 ·unfold findR
  have hne2 : z1q q.id t ≠ [] := by rw [ht]; intro e; have := congrArg List.length e; rw [List.length_take, List.length_nil] at this; omega
  rw [zaj _ hne2]
  have : (z1q q.id t)[(z1q q.id t).length - 1]'(by have := List.length_pos_iff.2 hne2; omega) = q := by
   have e3 : (z1q q.id t).length - 1 = n := by rw [ht, List.length_take]; omega
   simp only [e3]
   simp only [ht, List.getElem_take]
   exact hqe
  rw [this]
 ·unfold zbw; simp; omega
 ·have hal : (zbw id t).length = n + 1 := by unfold zbw; simp; omega
  have := List.getElem_reverse (l := (z1q id t).dropLast.map T.id) (i := 0) (by simp; omega)
  refine this.trans ?_
  simp only [List.getElem_map, List.getElem_dropLast, List.length_map, List.length_dropLast]
  have e4 : (z1q id t).length - 1 - 1 - 0 = n := by omega
  simp only [e4, hqe]
 ·have hal : (zbw id t).length = n + 1 := by unfold zbw; simp; omega
  have := List.getElem_reverse (l := (z1q id t).dropLast.map T.id) (i := n) (by simp; omega)
  have e5 : (zbw id t).length - 1 = n := by omega
  simp only [e5]
  refine this.trans ?_
  simp only [List.getElem_map, List.getElem_dropLast, List.length_map, List.length_dropLast]
  have e4 : (z1q id t).length - 1 - 1 - n = 0 := by omega
  simp only [e4, z90 hne]
 ·unfold zbw
  have e : (z1q id t).dropLast = (z1q id t).take (n + 1) := by rw [List.dropLast_eq_take, hnl]; rfl
  rw [ht, e, List.drop_one, List.tail_reverse, List.map_dropLast]
 ·rw [<- hxe]; exact zi5 id t _ (List.getElem_mem _)
 ·rw [<- hqe]; exact zi5 id t _ (List.getElem_mem _)
end Tr
end
section
open Abs Facts Tr
namespace Tr
def T.setKids (t : T) (l : List T) : T := .mk t.id t.kind t.label t.head t.words l
theorem zks (t : T) : t.setKids t.kids = t := T.eta t
inductive Ctx where
 | hole
 | node (t : T) (l : List T) (c : Ctx) (r : List T)
def z7t : Ctx -> T -> T
 | .hole, x => x
 | .node t l c r, x => t.setKids (l ++ z7t c x :: r)
def zgg : Ctx -> List Idv
 | .hole => []
 | .node t l c _ => t.id :: (l.flatMap idsT ++ zgg c)
def ziu : Ctx -> List Idv
 | .hole => []
 | .node _ _ c r => ziu c ++ r.flatMap idsT
def lenC : Ctx -> Nat
 | .hole => 0
 | .node _ _ c _ => lenC c + 1
def zh9 : Ctx -> List Idv
 | .hole => []
 | .node t _ c _ => zh9 c ++ [t.id]
theorem zkt : ∀ C, (zh9 C).length = lenC C
 | .hole => rfl
 | .node t l c r => by simp [zh9, lenC, zkt c]
theorem ze3 (x : T) : ∀ C, idsT (z7t C x) = zgg C ++ (idsT x ++ ziu C)
 | .hole => by simp [z7t, zgg, ziu]
 | .node t l c r => by
  rw [z7t, z2f]
  show t.id :: (l ++ z7t c x :: r).flatMap idsT = _
  rw [List.flatMap_append, List.flatMap_cons, ze3 x c, zgg, ziu]
  simp only [List.cons_append, List.append_assoc]
theorem zuj {id : Idv} {l r : List T} {p : T} : id ∈ (l ++ p :: r).flatMap idsT ↔ id ∈ l.flatMap idsT \/ id ∈ idsT p \/ id ∈ r.flatMap idsT := by
 rw [List.flatMap_append, List.flatMap_cons, List.mem_append, List.mem_append]
theorem zok (l r : List T) (p : T) : ∃ h : l.length < (l ++ p :: r).length, (l ++ p :: r)[l.length] = p := ⟨by simp, by simp⟩
theorem z94 {id : Idv} {l : List T} (h : id ∉ l.flatMap idsT) (p : T) (r : List T) : ∀ j, (hj : j < l.length) -> (hl : j < (l ++ p :: r).length) -> z1q id (l ++ p :: r)[j] = [] := fun j hj hl => by
 rw [List.getElem_append_left hj, z59]
 exact fun hm => h (List.mem_flatMap.2 ⟨_, List.getElem_mem hj, hm⟩)
section
variable {id : Idv} {t p : T} {l r : List T}
theorem way_mid (h0 : ¬ t.id = id) (hl : id ∉ l.flatMap idsT) (hp : id ∈ idsT p) : z1q id (t.setKids (l ++ p :: r)) = t.setKids (l ++ p :: r) :: z1q id p := by
 obtain ⟨h1, h2⟩ := zok l r p
 have := z4u (id := id) (t := t.setKids (l ++ p :: r)) (i := l.length) h0 h1 (z94 hl p r) (by
  show z1q id (l ++ p :: r)[l.length] ≠ []
  rw [h2]; exact z9m.2 hp)
 refine this.trans ?_
 show _ :: z1q id (l ++ p :: r)[l.length] = _
 rw [h2]
theorem zyh (h0 : ¬ t.id = id) (hl : id ∉ l.flatMap idsT) (hp : id ∈ idsT p) : findR id (t.setKids (l ++ p :: r)) = findR id p :=
 z74 (way_mid h0 hl hp) (z9m.2 hp)
theorem anc_mid (h0 : ¬ t.id = id) (hl : id ∉ l.flatMap idsT) (hp : id ∈ idsT p) : zbw id (t.setKids (l ++ p :: r)) = zbw id p ++ [t.id] := by
 obtain ⟨h1, h2⟩ := zok l r p
 have := zya (id := id) (t := t.setKids (l ++ p :: r)) (i := l.length) h0 h1 (z94 hl p r) (by
  show z1q id (l ++ p :: r)[l.length] ≠ []
  rw [h2]; exact z9m.2 hp)
 refine this.trans ?_
 show zbw id (l ++ p :: r)[l.length] ++ _ = _
 rw [h2]; rfl
theorem zyi (h0 : ¬ t.id = id) (hl : id ∉ l.flatMap idsT) (hp : p.id = id) : z6w id (t.setKids (l ++ p :: r)) = (t.id, (l.length : Int), true) := by
 obtain ⟨h1, h2⟩ := zok l r p
 exact zkn (id := id) (t := t.setKids (l ++ p :: r)) (i := l.length) h0 h1 (z94 hl p r) (by
  show (l ++ p :: r)[l.length].id = id
  rw [h2]; exact hp)
theorem par_mid (h0 : ¬ t.id = id) (hl : id ∉ l.flatMap idsT) (hp : ¬ p.id = id) (hm : id ∈ idsT p) : z6w id (t.setKids (l ++ p :: r)) = z6w id p := by
 obtain ⟨h1, h2⟩ := zok l r p
 have := zu8 (id := id) (t := t.setKids (l ++ p :: r)) (i := l.length) h0 h1 (z94 hl p r) (by
  show ¬ (l ++ p :: r)[l.length].id = id
  rw [h2]; exact hp) (by
  show z1q id (l ++ p :: r)[l.length] ≠ []
  rw [h2]; exact z9m.2 hm)
 refine this.trans ?_
 show z6w id (l ++ p :: r)[l.length] = _
 rw [h2]
end
theorem z3u (x : T) : x.id ∈ idsT x := by rw [z2f]; exact List.mem_cons_self
theorem z6j {id : Idv} {t : T} {l r : List T} {c : Ctx} (h : id ∉ zgg (.node t l c r)) : ¬ t.id = id /\ id ∉ l.flatMap idsT /\ id ∉ zgg c := by
 rw [zgg, List.mem_cons, List.mem_append] at h
 exact ⟨fun e => h (.inl e.symm), fun e => h (.inr (.inl e)), fun e => h (.inr (.inr e))⟩
theorem zuk {id : Idv} {t : T} {l r : List T} {c : Ctx} (h : id ∉ ziu (.node t l c r)) : id ∉ ziu c /\ id ∉ r.flatMap idsT := by
 rw [ziu, List.mem_append] at h
 exact ⟨fun e => h (.inl e), fun e => h (.inr e)⟩
theorem ze4 {id : Idv} (C : Ctx) {x : T} (h : id ∈ idsT x) : id ∈ idsT (z7t C x) := by
 rw [ze3]; exact List.mem_append_right _ (List.mem_append_left _ h)
theorem zfa {id : Idv} {x : T} (hx : id ∈ idsT x) : ∀ C, id ∉ zgg C -> findR id (z7t C x) = findR id x
 | .hole, _ => rfl
 | .node t l c r, h => by
  obtain ⟨h1, h2, h3⟩ := z6j h
  rw [z7t, zyh h1 h2 (ze4 c hx), zfa hx c h3]
theorem zol {id : Idv} {x : T} (hx : id ∈ idsT x) : ∀ C, id ∉ zgg C -> zbw id (z7t C x) = zbw id x ++ zh9 C
 | .hole, _ => by simp [z7t, zh9]
 | .node t l c r, h => by
  obtain ⟨h1, h2, h3⟩ := z6j h
  rw [z7t, anc_mid h1 h2 (ze4 c hx), zol hx c h3, zh9, List.append_assoc]
theorem zom {id : Idv} {x : T} (hx : id ∈ idsT x) (hn : ¬ x.id = id) : ∀ C, id ∉ zgg C -> z6w id (z7t C x) = z6w id x
 | .hole, _ => rfl
 | .node t l c r, h => by
  obtain ⟨h1, h2, h3⟩ := z6j h
  have h4 : ¬ (z7t c x).id = id := by
   cases c with
   | hole => exact hn
   | node t' l' c' r' => exact (z6j h3).1
  rw [z7t, par_mid h1 h2 h4 (ze4 c hx), zom hx hn c h3]
theorem focus (id : Idv) : ∀ u : T, id ∈ idsT u -> ∃ C, u = z7t C (findR id u).1 /\ (findR id u).1.id = id /\ id ∉ zgg C /\ (findR id u).2 = true := by
 refine z53 fun u ih hm => ?_
 by_cases h0 : u.id = id
 ·rw [z5n h0]
  exact ⟨.hole, rfl, h0, by simp [zgg], rfl⟩
 ·obtain ⟨i, hi, h1, h2, h3⟩ := z63 h0 (z9m.2 hm)
  rw [z74 h3 h2]
  obtain ⟨C, g1, g2, g3, g4⟩ := ih _ (List.getElem_mem hi) (z9m.1 h2)
  refine ⟨.node u (u.kids.take i) C (u.kids.drop (i + 1)), ?_, g2, ?_, g4⟩
  ·rw [z7t, <- g1, <- List.drop_eq_getElem_cons hi, List.take_append_drop, zks]
  ·rw [zgg, List.mem_cons, List.mem_append]
   rintro (h | h | h)
   ·exact h0 h.symm
   ·obtain ⟨k, O, hki⟩ := List.mem_flatMap.1 h
    obtain ⟨j, hj, rfl⟩ := List.getElem_of_mem O
    rw [List.getElem_take] at hki
    rw [List.length_take] at hj
    have := h1 j (by omega) (by omega)
    rw [z59] at this
    exact this hki
   ·exact g3 h
theorem zul {id : Idv} {u : T} (h : id ∉ idsT u) : findR id u = (T.zero, false) := zb3 ((z59 id u).2 h)
theorem zmt {id : Idv} {u : T} : (findR id u).2 = decide (id ∈ idsT u) := by
 by_cases h : id ∈ idsT u
 ·obtain ⟨_, _, _, _, h4⟩ := focus id u h
  rw [h4, decide_eq_true h]
 ·rw [zul h, decide_eq_false h]
theorem focus2 {id : Idv} {u : T} (h0 : ¬ u.id = id) (hm : id ∈ idsT u) : ∃ (C : Ctx) (q : T) (l : List T) (x : T) (r : List T), u = z7t C (q.setKids (l ++ x :: r)) /\ x.id = id /\ ¬ q.id = id /\ id ∉ zgg C /\ id ∉ l.flatMap idsT /\ findR id u = (x, true) /\ z6w id u = (q.id, (l.length : Int), true) := by
 obtain ⟨C, h1, h2, h3, h4⟩ := focus id u hm
 -- the last frame of C
 have last : ∀ C : Ctx, ∀ x : T, ¬ (z7t C x).id = id -> x.id = id -> id ∉ zgg C -> ∃ (C' : Ctx) (q : T) (l r : List T), z7t C x = z7t C' (q.setKids (l ++ x :: r)) /\ ¬ q.id = id /\ id ∉ zgg C' /\ id ∉ l.flatMap idsT := by
  intro C x
  induction C with
  | hole => intro h hx _; exact (h hx).elim
  | node t l c r ih =>
   intro h hx hn
   obtain ⟨n1, n2, n3⟩ := z6j hn
   by_cases hc : (z7t c x).id = id
   ·cases c with
    | hole => exact ⟨.hole, t, l, r, rfl, n1, by simp [zgg], n2⟩
    | node t' l' c' r' => exact ((z6j n3).1 hc).elim
   ·obtain ⟨C', q, l', r', e, g1, g2, g3⟩ := ih hc hx n3
    refine ⟨.node t l C' r, q, l', r', ?_, g1, ?_, g3⟩
    ·rw [z7t, e, z7t]
    ·rw [zgg, List.mem_cons, List.mem_append]
     rintro (h | h | h)
     ·exact n1 h.symm
     ·exact n2 h
     ·exact g2 h
 generalize hx : (findR id u).1 = x at h1 h2
 obtain ⟨C', q, l, r, e, g1, g2, g3⟩ := last C x (by rw [<- h1]; exact h0) h2 h3
 refine ⟨C', q, l, x, r, h1.trans e, h2, g1, g2, g3, ?_, ?_⟩
 ·rw [<- hx, <- h4]
 ·rw [h1, e, zom (x := q.setKids (l ++ x :: r)) (by rw [z2f, List.mem_cons]; exact .inr (zuj.2 (.inr (.inl (h2 ▸ z3u x))))) g1 C' g2, zyi g1 g3 h2]
end Tr
end
section
open Abs Facts Tr
namespace Tr
theorem zbt {C : Ctx} {x : T} (h : (idsT (z7t C x)).Nodup) {id : Idv} (hid : id ∈ idsT x) : id ∉ zgg C /\ id ∉ ziu C := by
 rw [ze3, List.nodup_append] at h
 obtain ⟨_, h2, h3⟩ := h
 rw [List.nodup_append] at h2
 exact ⟨fun hm => h3 id hm id (List.mem_append_left _ hid) rfl, fun hm => h2.2.2 id hid id hm rfl⟩
theorem zgm {C : Ctx} {x : T} (h : (idsT (z7t C x)).Nodup) : (idsT x).Nodup := by
 rw [ze3, List.nodup_append] at h
 exact (List.nodup_append.1 h.2.1).1
theorem zed (t : T) (l : List T) : idsT (t.setKids l) = t.id :: l.flatMap idsT := z2f _
theorem zse {q x : T} {l r : List T} (h : (idsT (q.setKids (l ++ x :: r))).Nodup) : (∀ i ∈ idsT x, i ≠ q.id /\ i ∉ l.flatMap idsT /\ i ∉ r.flatMap idsT) /\ (idsT x).Nodup /\ (idsT (q.setKids (l ++ r))).Nodup := by
 rw [zed, List.flatMap_append, List.flatMap_cons] at h
 rw [zed, List.flatMap_append]
 rw [List.nodup_cons, List.nodup_append, List.nodup_append] at h
 obtain ⟨h0, h1, ⟨h2, h3, h4⟩, h5⟩ := h
 refine ⟨fun i hi => ⟨fun e => h0 ?_, fun hm => h5 i hm i (List.mem_append_left _ hi) rfl, fun hm => h4 i hi i hm rfl⟩, h2, ?_⟩
 ·rw [<- e]; exact List.mem_append_right _ (List.mem_append_left _ hi)
 ·rw [List.nodup_cons, List.nodup_append]
  refine ⟨fun hm => h0 ?_, h1, h3, fun a ha b hb => h5 a ha b (List.mem_append_right _ hb)⟩
  rcases List.mem_append.1 hm with h | h
  ·exact List.mem_append_left _ h
  ·exact List.mem_append_right _ (List.mem_append_right _ h)
end Tr
end
section
open Abs
namespace Tr
theorem z3x {id : Idv} {u : T} (h : (findR id u).2 = true) : (findR id u).1 ∈ nodesT u := by
 have hm := zc5.1 h
 unfold findR
 rw [zaj _ hm]
 exact zi5 id u _ (List.getElem_mem _)
theorem z0x {id : Idv} {u q : T} (hn : (idsT u).Nodup) (hq : q ∈ nodesT u) (hid : q.id = id) : findR id u = (q, true) := by
 have key : ∀ u : T, (idsT u).Nodup -> q ∈ nodesT u -> findR id u = (q, true) := by
  refine z53 fun u ih hn hq => ?_
  rw [z15, List.mem_cons] at hq
  rcases hq with rfl | hq
  ·exact z5n hid
  ·obtain ⟨k, O, hqk⟩ := List.mem_flatMap.1 hq
   obtain ⟨i, hi, rfl⟩ := List.getElem_of_mem O
   obtain ⟨g1, g2, g3⟩ := zc1 hn
   have hin : id ∈ idsT u.kids[i] := List.mem_map.2 ⟨q, hqk, hid⟩
   have h2 := ih _ O (g2 _ O) hqk
   have hw : z1q id u.kids[i] ≠ [] := z9m.2 hin
   rw [z74 (z4u (fun e => g1 _ O (e ▸ hin)) hi (fun j hj h => (z59 id _).2 (g3 i j hi h (by omega) id hin)) hw) hw, h2]
 exact key u hn hq
def wtT (w : TT -> Nat) (t : TT) : Nat := ((zby t).map w).sum
theorem z7n : ∀ l : List (List Nat), l.flatten.sum = (l.map List.sum).sum
 | [] => rfl
 | a :: l => by simp [z7n l]
theorem zte (w : TT -> Nat) (t : TT) : wtT w t = w t + (t.kids.map (wtT w)).sum := by
 unfold wtT
 rw [zgv, List.map_cons, List.sum_cons, List.map_flatten, z7n, List.map_map, List.map_map]
 rfl
def zgw (w : TT -> Nat) : Prop := ∀ s k i l wa m a b ks, w (.mk s k i l wa m a b ks) = w (.mk s k i l wa m a b [])
theorem z8g {f : T -> Nat} (t : T) : ((nodesT t).map f).sum = f t + (t.kids.map fun k => ((nodesT k).map f).sum).sum := by
 rw [z15, List.map_cons, List.sum_cons, List.map_flatMap, List.flatMap_def, z7n, List.map_map]
 rfl
theorem z6s {α : Type} (f g : α -> Nat) : ∀ l : List α, (l.map fun x => f x + g x).sum = (l.map f).sum + (l.map g).sum
 | [] => rfl
 | x :: l => by simp [z6s f g l]; omega
theorem z5m {α : Type} (p : α -> Bool) (f : α -> Nat) : ∀ l : List α, ((l.filter p).map f).sum = (l.map fun x => if p x = true then f x else 0).sum
 | [] => rfl
 | x :: l => by
  by_cases h : p x = true
  ·simp [List.filter_cons_of_pos h, h, z5m p f l]
  ·simp [List.filter_cons_of_neg h, h, z5m p f l]
theorem z2i {α : Type} {f g : α -> Nat} {l : List α} (h : ∀ x ∈ l, f x = g x) : (l.map f).sum = (l.map g).sum := by
 rw [List.map_congr_left h]
theorem zo3 {l m : List Nat} (h : l.Perm m) : l.sum = m.sum := h.sum_nat
def goK (w : TT -> Nat) (B : T) (s : Idv -> Bool) (x : T) : Nat := ((x.kids.filter fun k => !s k.id).map fun k => wtT w (z4y B k)).sum
def goD (w : TT -> Nat) (B : T) (mv : Idv -> Bool) (x : T) : Nat :=
 (if z16 x.id B = true then 0 else w (zev x [])) + (x.kids.map fun k => if z16 k.id B = true /\ mv k.id = true then w (phT k.id) else 0).sum
theorem zmh {w : TT -> Nat} (hw : zgw w) (B x : T) : wtT w (z4y B x) = if z16 x.id B = true then w (phT x.id) else w (zev x []) + (x.kids.map fun k => wtT w (z4y B k)).sum := by
 rw [zdt]
 split
 ·rw [zte]; simp [phT, TT.kids]
 ·rw [zte]
  have : w (zev x (x.kids.map (z4y B))) = w (zev x []) := hw ..
  rw [this]
  show _ + ((x.kids.map (z4y B)).map (wtT w)).sum = _
  rw [List.map_map]; rfl
theorem zxm {w : TT -> Nat} (hw : zgw w) {A B : T} {mv : Idv -> Bool} : ∀ t : T,
  (∀ x ∈ nodesT t, ∀ k ∈ x.kids, z16 k.id A = true) ->
  (∀ x ∈ nodesT t, z16 x.id B = false -> ∀ k ∈ x.kids, z16 k.id B = true -> mv k.id = true) ->
  ((nodesT t).map fun x => if z16 x.id B = true then goK w B (stayB A B mv) x else 0).sum + (if z16 t.id B = true then 0 else wtT w (z4y B t)) = ((nodesT t).map (goD w B mv)).sum := by
 refine z53 fun t ih hA h => ?_
 rw [z8g (f := fun x => if z16 x.id B = true then goK w B (stayB A B mv) x else 0), z8g (f := goD w B mv)]
 have O : ∀ k ∈ t.kids, ((nodesT k).map (goD w B mv)).sum = ((nodesT k).map fun x => if z16 x.id B = true then goK w B (stayB A B mv) x else 0).sum + (if z16 k.id B = true then 0 else wtT w (z4y B k)) := fun k O =>
  (ih k O (fun x hx => hA x (z0j O hx)) (fun x hx => h x (z0j O hx))).symm
 rw [z2i O, z6s]
 have key : (if z16 t.id B = true then goK w B (stayB A B mv) t else 0) + (if z16 t.id B = true then 0 else wtT w (z4y B t)) = goD w B mv t + (t.kids.map fun k => if z16 k.id B = true then 0 else wtT w (z4y B k)).sum := by
  unfold goD
  by_cases ht : z16 t.id B = true
  ·rw [if_pos ht, if_pos ht, if_pos ht, Nat.add_zero, Nat.zero_add, <- z6s]
   unfold goK
   rw [z5m]
   refine z2i fun k O => ?_
   have hkA := hA t (z07 t) k O
   unfold stayB
   rw [hkA, zmh hw]
   by_cases hkB : z16 k.id B = true
   ·by_cases hm : mv k.id = true
    ·simp [hkB, hm]
    ·simp [hkB, hm]
   ·simp [hkB]
  ·rw [if_neg ht, if_neg ht, if_neg ht, Nat.zero_add, Nat.add_assoc, <- z6s, zmh hw, if_neg ht]
   congr 1
   refine z2i fun k O => ?_
   rw [zmh hw]
   by_cases hkB : z16 k.id B = true
   ·have hm := h t (z07 t) (by simpa using ht) k O hkB
    simp [hkB, hm]
   ·simp [hkB]
 omega
theorem ztf {w : TT -> Nat} (hw : zgw w) (A B : T) (mv : Idv -> Bool) : ∀ u : T,
  wtT w (z44 A B mv u) = ((nodesT u).map fun y => w (z4e A mv y []) + goK w B (stayB A B mv) (findR y.id A).1).sum := by
 refine z53 fun u ih => ?_
 rw [z8g (f := fun y => w (z4e A mv y []) + goK w B (stayB A B mv) (findR y.id A).1), zan, zte]
 have h1 : ∀ ks, w (z4e A mv u ks) = w (z4e A mv u []) := fun ks => hw ..
 rw [h1, Nat.add_assoc]
 congr 1
 show (List.map (wtT w) (mg _ _ _ _)).sum = _
 rw [zo3 ((z9y _ _ _ _).map _), List.map_append, List.sum_append, List.map_map, List.map_map, List.map_map]
 congr 1
 exact congrArg List.sum (List.map_congr_left ih)
end Tr
end
section
open Abs
namespace Tr
structure Books (A B : T) (mv : Idv -> Bool) : Prop where
 na : (idsT A).Nodup
 nb : (idsT B).Nodup
 root : A.id = B.id
 rootM : mv B.id = false
 kept : ∀ i, mv i = true -> i ∈ idsT A /\ i ∈ idsT B
 kind : ∀ i x y, findR i A = (x, true) -> findR i B = (y, true) -> x.kind = y.kind
 lab : ∀ i x y, findR i A = (x, true) -> findR i B = (y, true) -> ¬ x.label = y.label -> ¬ x.label = ByteArray.empty
 line : ∀ i x y, findR i A = (x, true) -> findR i B = (y, true) -> (x.kids.filter fun k => stayB A B mv k.id).map T.id = (y.kids.filter fun k => stayB A B mv k.id).map T.id
 offA : ∀ x ∈ nodesT A, x.id ∉ idsT B -> ∀ k ∈ x.kids, k.id ∈ idsT B -> mv k.id = true
 offB : ∀ y ∈ nodesT B, y.id ∉ idsT A -> ∀ k ∈ y.kids, k.id ∈ idsT A -> mv k.id = true
theorem z11 : ∀ t : T, ∀ y ∈ nodesT t, ∀ z ∈ nodesT y, z ∈ nodesT t := by
 refine z53 fun t ih y hy z hz => ?_
 rw [z15, List.mem_cons, List.mem_flatMap] at hy
 rcases hy with rfl | ⟨k, O, hy⟩
 ·exact hz
 ·exact z0j O (ih k O y hy z hz)
theorem zbq {id : Idv} {t : T} (h : (findR id t).2 = true) : (findR id t).1.id = id := by
 have h1 := zc5.1 h
 unfold findR
 rw [zaj _ h1]
 exact zo7 id t h1
theorem id_in {t y : T} (h : y ∈ nodesT t) : y.id ∈ idsT t := List.mem_map.2 ⟨y, h, rfl⟩
theorem z14 {i : Idv} {t : T} : z16 i t = decide (i ∈ idsT t) := zmt
section
variable {A B : T} {mv : Idv -> Bool}
end
end Tr
end
section
open Abs
namespace Tr
def zsa (a b : List ByteArray) : List (Nat × Nat) -> Nat -> Nat -> Prop
 | [], _, _ => True
 | p :: l, i, k => i <= p.1 /\ p.1 < a.length /\ k <= p.2 /\ p.2 < b.length /\ a[p.1]? = b[p.2]? /\ zsa a b l (p.1 + 1) (p.2 + 1)
theorem zdd (a b : List ByteArray) : ∀ (n i k : Nat), Lcs.at_ a b i k = n -> zsa a b (Lcs.pairsF a b n i k) i k
 | 0, _, _, _ => trivial
 | n + 1, i, k, h => by
  obtain ⟨q1, q2, q3, q4, q5, q6⟩ := Lcs.next_good a b i k n h
  exact ⟨q1, q2, q3, q4, q5, zdd a b n _ _ q6⟩
theorem z83 (a b : List ByteArray) : zsa a b (Lcs.pairs a b) 0 0 := by
 unfold Lcs.pairs
 split
 ·trivial
 ·exact zdd a b _ 0 0 rfl
def zm2 (s : Int) (l : List Tw) : Nat := l.countP fun w => decide (w.state = s)
theorem zab (s : Int) (l m : List Tw) : zm2 s (l ++ m) = zm2 s l + zm2 s m := by simp [zm2]
theorem z7i (s : Int) (l : List ByteArray) : zm2 s (l.map (stW s)) = l.length := by
 unfold zm2
 rw [List.countP_eq_length.2 (fun x hx => by obtain ⟨y, _, rfl⟩ := List.mem_map.1 hx; simp [stW]), List.length_map]
theorem z5s {s n : Int} (h : ¬ n = s) (l : List ByteArray) : zm2 s (l.map (stW n)) = 0 := by
 unfold zm2
 rw [List.countP_eq_zero]
 intro x hx
 obtain ⟨y, _, rfl⟩ := List.mem_map.1 hx
 simp [stW, h]
theorem zwc (a b : List ByteArray) : ∀ (l : List (Nat × Nat)) (i k : Nat), zsa a b l i k -> i <= a.length -> k <= b.length ->
  zm2 1 (wov (stW 2) (stW 1) (fun s _ => stW 0 s) a b l i k) + l.length + k = b.length /\ zm2 2 (wov (stW 2) (stW 1) (fun s _ => stW 0 s) a b l i k) + l.length + i = a.length
 | [], i, k, _, hi, O => by
  rw [wov, zab, zab, z5s (by decide), z7i, z7i, z5s (by decide), List.length_drop, List.length_drop, List.length_nil]
  omega
 | (x, y) :: l, i, k, h, hi, O => by
  obtain ⟨h1, h2, h3, h4, h5, h6⟩ := h
  simp only at h1 h2 h3 h4
  have ih := zwc a b l _ _ h6 (by simp only; omega) (by simp only; omega)
  simp only at ih
  rw [wov]
  simp only [zab]
  rw [z5s (by decide), z7i, z7i, z5s (by decide), List.getElem?_eq_getElem h2, List.getElem?_eq_getElem h4, List.length_take, List.length_take, List.length_drop, List.length_drop, List.length_cons]
  have e1 : zm2 1 [stW 0 a[x]] = 0 := rfl
  have e2 : zm2 2 [stW 0 a[x]] = 0 := rfl
  simp only [e1, e2]
  omega
theorem zlz (v u : List ByteArray) : zm2 1 (z4d v u) + (Lcs.pairs v u).length = u.length /\ zm2 2 (z4d v u) + (Lcs.pairs v u).length = v.length := by
 have := zwc v u _ 0 0 (z83 v u) (Nat.zero_le _) (Nat.zero_le _)
 unfold z4d
 omega
section
variable {A B : T} {mv : Idv -> Bool}
end
end Tr
end
section
open Abs
structure Ed where
 at_ : Int
 old : List ByteArray
 new : List ByteArray
 deriving DecidableEq
def zzx (e : Ed) : List D := [.int .i64 e.at_, z2e e.old, z2e e.new]
def encE (l : List Ed) : D := .rsl false 3 (l.map fun e => .agg (zzx e))
attribute [go_sem] encE
def fitsB (a : List ByteArray) (f : Int) (e : Ed) : Bool :=
 decide (f <= e.at_ /\ e.at_ <= a.length /\ (e.old.length : Int) <= a.length - e.at_ /\ e.old.length + e.new.length ≠ 0 /\ (a.take (e.at_ + e.old.length).toNat).drop e.at_.toNat = e.old)
def app (a : List ByteArray) : List Ed -> Bool -> Int -> Option (List ByteArray)
 | [], _, f => some (a.drop f.toNat)
 | e :: l, fst, f => if fitsB a f e = true /\ (fst = true \/ e.at_ ≠ f) then (app a l false (e.at_ + e.old.length)).map fun r => (a.take e.at_.toNat).drop f.toNat ++ e.new ++ r else none
end
section
open Abs
namespace Tr
def prK (s : Idv -> Bool) (bs : List Idv) : List T -> Nat -> List (Nat × Nat)
 | [], _ => []
 | x :: a, i => if s x.id = true then (i, bs.idxOf x.id) :: prK s bs a (i + 1) else prK s bs a (i + 1)
theorem zhq (s : Idv -> Bool) (bs : List Idv) : ∀ (a : List T) (i : Nat), (prK s bs a i).length <= a.length
 | [], _ => Nat.le_refl _
 | x :: a, i => by
  have := zhq s bs a (i + 1)
  unfold prK
  split <;> simp only [List.length_cons] <;> omega
theorem zhr {s : Idv -> Bool} {x : T} {l : List Idv} : ∀ (b : List T), x.id :: l = (b.filter fun k => s k.id).map T.id -> ∃ p y q, b = p ++ y :: q /\ (∀ k ∈ p, s k.id = false) /\ y.id = x.id /\ l = (q.filter fun k => s k.id).map T.id
 | [], h => by cases h
 | y :: b, h => by
  by_cases hy : s y.id = true
  ·rw [List.filter_cons_of_pos (by simpa using hy), List.map_cons, List.cons.injEq] at h
   exact ⟨[], y, b, rfl, fun k O => (by cases O), h.1.symm, h.2⟩
  ·rw [List.filter_cons_of_neg (by simpa using hy)] at h
   obtain ⟨p, z, q, rfl, h1, h2, h3⟩ := zhr b h
   refine ⟨y :: p, z, q, rfl, fun k O => ?_, h2, h3⟩
   rcases List.mem_cons.1 O with rfl | O
   ·simpa using hy
   ·exact h1 k O
theorem idx_at {b : List T} (hn : (b.map T.id).Nodup) {k : Nat} {p q : List T} {y : T} (h : b.drop k = p ++ y :: q) : (b.map T.id).idxOf y.id = k + p.length /\ k + p.length < b.length /\ b[k + p.length]? = some y /\ b.drop (k + p.length + 1) = q := by
 have hl : k + p.length < b.length := by
  have := congrArg List.length h
  rw [List.length_drop, List.length_append, List.length_cons] at this
  omega
 have hg : b[k + p.length]? = some y := by
  have := congrArg (fun l => l[p.length]?) h
  simpa using this
 have he : b[k + p.length] = y := by rw [List.getElem?_eq_getElem hl] at hg; exact Option.some.inj hg
 refine ⟨?_, hl, hg, ?_⟩
 ·have h2 : (b.map T.id)[k + p.length]'(by simpa using hl) = y.id := by simp [he]
  rw [<- h2]
  exact hn.idxOf_getElem _ _
 ·rw [Nat.add_assoc, <- List.drop_drop, h, List.drop_append]
  simp
section
variable {γ : Type} {s : Idv -> Bool} {ga gb : T -> γ} {a b : List T}
theorem zvl (hn : (b.map T.id).Nodup) : ∀ (r : List T) (i i' k : Nat), a.drop i = r -> i' <= i -> i <= a.length -> k <= b.length ->
  (r.filter fun k => s k.id).map T.id = ((b.drop k).filter fun k => s k.id).map T.id ->
  wov ga gb (fun _ y => gb y) a b (prK s (b.map T.id) r i) i' k = ((a.drop i').take (i - i')).map ga ++ mg s ga r ((b.drop k).map fun y => (y.id, gb y)) /\ Rise a.length b.length (prK s (b.map T.id) r i) i' k
 | [], i, i', k, hr, hi, hia, O, hf => by
  have hi2 : i = a.length := by
   have := congrArg List.length hr
   rw [List.length_drop, List.length_nil] at this; omega
  refine ⟨?_, ?_, O⟩
  ·rw [prK, wov, mg, List.take_of_length_le (by rw [List.length_drop]; omega), List.map_map]; rfl
  ·omega
 | x :: r, i, i', k, hr, hi, hia, O, hf => by
  have hil : i < a.length := by
   have := congrArg List.length hr
   rw [List.length_drop, List.length_cons] at this; omega
  have hx : a[i] = x /\ a.drop (i + 1) = r := by
   rw [List.drop_eq_getElem_cons hil, List.cons.injEq] at hr; exact hr
  by_cases hs : s x.id = true
  ·rw [List.filter_cons_of_pos (by simpa using hs), List.map_cons] at hf
   obtain ⟨p, y, q, hb, hp, hy, hl⟩ := zhr (b.drop k) hf
   obtain ⟨e1, e2, e3, e4⟩ := idx_at hn hb
   have ih := zvl hn r (i + 1) (i + 1) (k + p.length + 1) hx.2 (Nat.le_refl _) (by omega) (by omega) (by rw [e4]; exact hl)
   have e5 : prK s (b.map T.id) (x :: r) i = (i, k + p.length) :: prK s (b.map T.id) r (i + 1) := by rw [prK, if_pos hs, <- hy, e1]
   rw [e5]
   refine ⟨?_, by omega, by omega, hil, e2, ih.2⟩
   rw [wov, ih.1, mg, if_pos hs, hb]
   have t1 : ((p ++ y :: q).map fun y => (y.id, gb y)).takeWhile (fun z => !s z.1) = p.map fun y => (y.id, gb y) := by
    rw [List.map_append, List.map_cons, List.takeWhile_append_of_pos (by
     intro z hz
     obtain ⟨k, O, rfl⟩ := List.mem_map.1 hz
     simp [hp k O]), List.takeWhile_cons_of_neg (by simp [hy, hs]), List.append_nil]
   have t2 : ((p ++ y :: q).map fun y => (y.id, gb y)).dropWhile (fun z => !s z.1) = (y.id, gb y) :: q.map fun y => (y.id, gb y) := by
    rw [List.map_append, List.map_cons, List.dropWhile_append_of_pos (by
     intro z hz
     obtain ⟨k, O, rfl⟩ := List.mem_map.1 hz
     simp [hp k O]), List.dropWhile_cons_of_neg (by simp [hy, hs])]
   rw [t1, t2, e4, e3, List.getElem?_eq_getElem hil]
   simp only [Nat.sub_self, List.take_zero, List.map_nil, List.nil_append, List.map_map]
   rw [show k + p.length - k = p.length by omega, List.take_left']
   ·rfl
   ·rfl
  ·rw [List.filter_cons_of_neg (by simpa using hs)] at hf
   have ih := zvl hn r (i + 1) i' k hx.2 (by omega) (by omega) O hf
   rw [prK, if_neg hs]
   refine ⟨?_, ih.2⟩
   rw [ih.1, mg, if_neg hs]
   have e : (a.drop i').take (i + 1 - i') = (a.drop i').take (i - i') ++ [x] := by
    rw [show i + 1 - i' = (i - i') + 1 by omega, List.take_succ_eq_append_getElem (by rw [List.length_drop]; omega), List.getElem_drop]
    congr 2
    have : i' + (i - i') = i := by omega
    simp only [this]; exact hx.1
   rw [e, List.map_append, List.append_assoc]; rfl
end
end Tr
end
open _root_.Go.Proofs.Tryd
section
open Abs Facts
theorem zay {α β : Type} (f : α -> β) (l : List α) (i : Nat) (x : α) : (l.map f).set i (f x) = (l.set i x).map f := by simp
attribute [local irreducible] awp
theorem pc36 (i k w : Nat) (cs : List Int) (v : Int) (hv : cs[i * w + k]? = some v) (hc : cs.length <= 100000) : PC prog 96 [.int .i64 i, .int .i64 k, .rptr (z45 cs), .rptr (.int .i64 w)] (.int .i64 v) := by
 obtain ⟨hlt, hv'⟩ := List.getElem?_eq_some_iff.1 hv
 refine z3q 1 (by simp only [pureD.pureL, pureD, z46, Bool.and_self]) rfl (z30 [] func96 rfl (by decide +kernel) rfl ?_)
 show awp _ _ (Code.seq _ _) _ _
 have w1 : IntKind.i64.wrap ((i : Int) * (w : Int)) = ((i * w : Nat) : Int) := by rw [<- Int.natCast_mul]; exact z28 (by omega)
 have w2 : IntKind.i64.wrap (((i * w : Nat) : Int) + (k : Int)) = ((i * w + k : Nat) : Int) := by rw [<- Int.natCast_add]; exact z28 (by omega)
 have i1 := z2u (D.int .i64) cs _ hlt
 (refine zqh fun K hK => ?_); (simp only [go_sem, Nat.reduceBEq, Nat.reduceBeqDiff, Nat.reduceEqDiff, ↓reduceIte, reduceCtorEq, Nat.reduceAdd, Nat.reduceMul, Nat.reduceLeDiff, Nat.reduceLT, Int.reduceLT, Int.reduceLE, Int.reduceEq]); (refine hK _ ?_); (clear hK K)
 (refine zqh fun K hK => ?_); (simp only [go_sem, Nat.reduceBEq, Nat.reduceBeqDiff, Nat.reduceEqDiff, ↓reduceIte, reduceCtorEq, Nat.reduceAdd, Nat.reduceMul, Nat.reduceLeDiff, Nat.reduceLT, Int.reduceLT, Int.reduceLE, Int.reduceEq, z45, w1, w2, i1]); (refine hK _ ?_); (clear hK K)
 (refine zqn ?_); (refine Exists.intro _ (And.intro rfl ?_))
 exact z2v hv'
end
section
open Abs Facts
attribute [local irreducible] awp
theorem rc36 {H : HM} {nx : Nat} (i k w n : Nat) (cs : List Int) (v : Int) (hL : H 2 = some (.box 93 [.osl 1 n])) (hR : H 1 = some (.row 3 n (cs.map (D.int .i64)))) (hW : H 0 = some (.box 3 [.int .i64 (w : Int)])) (hn : cs.length = n)
  (hv : cs[i * w + k]? = some v) (hc : cs.length <= 100000) : RC prog 96 [.int .i64 i, .int .i64 k, .ptr 2 0, .ptr 0 0] H nx (.int .i64 v) := by
 refine PC.borrow (pc36 i k w cs v hv hc) rfl 3 ?_
 refine z0e (z0b _ rfl) (z0e (z0b _ rfl) (z0e ?_ (z0e ?_ z4s)))
 ·exact z47 2 hL zz9 (z8h 0 hR z2n z52 (by simpa using hn) (z0a (fun _ => rfl) _))
 ·exact z47 2 hW z2n (z0b _ rfl)
set_option maxHeartbeats 2000000 in
theorem pc28 (a b : List ByteArray) (ha : a.length <= 256) (hb : b.length <= 256) : PC prog 81 [z2e a, z2e b] (.fn 96 [.rptr (z45 (Lcs.tab a b)), .rptr (.int .i64 ((b.length + 1 : Nat) : Int))]) := by
 refine z3q 4 (by simp only [pureD.pureL, z3n, Bool.and_self]) (by simp only [pureD, pureD.pureL, z46, Bool.and_self]) (z30 [] func81 rfl (by decide +kernel) rfl ?_)
 show awp _ _ (Code.seq _ _) _ _
 have w1 : IntKind.i64.wrap ((b.length : Int) + 1) = ((b.length + 1 : Nat) : Int) := z28 (by omega)
 have w2 : IntKind.i64.wrap ((a.length : Int) + 1) = ((a.length + 1 : Nat) : Int) := z28 (by omega)
 have hm : (a.length + 1) * (b.length + 1) <= 66049 := Nat.mul_le_mul (show a.length + 1 <= 257 by omega) (show b.length + 1 <= 257 by omega)
 have w3 : IntKind.i64.wrap (((a.length + 1 : Nat) : Int) * ((b.length + 1 : Nat) : Int)) = (((a.length + 1) * (b.length + 1) : Nat) : Int) := by rw [<- Int.natCast_mul]; exact z28 (by omega)
 have g1 : (0 : Int) <= (((a.length + 1) * (b.length + 1) : Nat) : Int) := by omega
 have g2 : (a.length + 1) * (b.length + 1) * 8 <= 140737488355328 := by omega
 have g3 : (((a.length + 1) * (b.length + 1) : Nat) : Int) <= 9223372036854775807 := by omega
 (refine zqh fun K hK => ?_); (simp only [go_sem, Nat.reduceBEq, Nat.reduceBeqDiff, Nat.reduceEqDiff, ↓reduceIte, reduceCtorEq, Nat.reduceAdd, Nat.reduceMul, Nat.reduceLeDiff, Nat.reduceLT, Int.reduceLT, Int.reduceLE, Int.reduceEq]); (refine hK _ ?_); (clear hK K)
 repeat refine zqj ?_
 (refine zqh fun K hK => ?_); (simp only [go_sem, Nat.reduceBEq, Nat.reduceBeqDiff, Nat.reduceEqDiff, ↓reduceIte, reduceCtorEq, Nat.reduceAdd, Nat.reduceMul, Nat.reduceLeDiff, Nat.reduceLT, Int.reduceLT, Int.reduceLE, Int.reduceEq, z2e, w1]); (refine hK _ ?_); (clear hK K)
 repeat refine zqj ?_
 (refine zqh fun K hK => ?_); (simp only [go_sem, Nat.reduceBEq, Nat.reduceBeqDiff, Nat.reduceEqDiff, ↓reduceIte, reduceCtorEq, Nat.reduceAdd, Nat.reduceMul, Nat.reduceLeDiff, Nat.reduceLT, Int.reduceLT, Int.reduceLE, Int.reduceEq, z2e, w1, w2, w3, g1, g2, g3, zdv (D.int .i64) 0 ((a.length + 1) * (b.length + 1))]); (refine hK _ ?_); (clear hK K)
 repeat refine zqj ?_
 (refine zqh fun K hK => ?_); (simp only [go_sem, Nat.reduceBEq, Nat.reduceBeqDiff, Nat.reduceEqDiff, ↓reduceIte, reduceCtorEq, Nat.reduceAdd, Nat.reduceMul, Nat.reduceLeDiff, Nat.reduceLT, Int.reduceLT, Int.reduceLE, Int.reduceEq]); (refine hK _ ?_); (clear hK K)
 have w4 : IntKind.i64.wrap ((a.length : Int) - 1) = (a.length : Int) - 1 := z28 (by omega)
 have w5 : IntKind.i64.wrap ((b.length : Int) - 1) = (b.length : Int) - 1 := z28 (by omega)
 repeat refine zqj ?_
 (refine zqh fun K hK => ?_); (simp only [go_sem, Nat.reduceBEq, Nat.reduceBeqDiff, Nat.reduceEqDiff, ↓reduceIte, reduceCtorEq, Nat.reduceAdd, Nat.reduceMul, Nat.reduceLeDiff, Nat.reduceLT, Int.reduceLT, Int.reduceLE, Int.reduceEq, z2e, w4]); (refine hK _ ?_); (clear hK K)
 refine z0q fun K hK => ?_
 refine zqi (z3f (fun n st => ∃ cs : List Int, n <= a.length /\ st.t 0 = z2e a /\ st.t 1 = z2e b /\ st.t 5 = .ptr 0 0 /\ st.t 6 = .ptr 2 0 /\ st.t 7 = .fn 96 [.ptr 2 0, .ptr 0 0] /\ st.t 8 = .int .i64 ((n : Int) - 1) /\
   st.H 0 = some (.box 3 [.int .i64 ((b.length + 1 : Nat) : Int)]) /\ st.H 1 = some (.row 3 ((a.length + 1) * (b.length + 1)) (cs.map (D.int .i64))) /\ st.H 2 = some (.box 93 [.osl 1 ((a.length + 1) * (b.length + 1))]) /\
   Lcs.Known a b cs n 0) a.length ?_ ?_)
 ·exact ⟨List.replicate ((a.length + 1) * (b.length + 1)) 0, Nat.le_refl _, rfl, rfl, rfl, rfl, rfl, rfl, rfl, rfl, rfl, Lcs.known_zero a b⟩
 rintro n st ⟨cs, hn, h0, h1, h5, h6, h7, h8, hH0, hH1, hH2, O⟩
 repeat refine zqj ?_
 (refine zqh fun K hK => ?_); (simp only [go_sem, Nat.reduceBEq, Nat.reduceBeqDiff, Nat.reduceEqDiff, ↓reduceIte, reduceCtorEq, Nat.reduceAdd, Nat.reduceMul, Nat.reduceLeDiff, Nat.reduceLT, Int.reduceLT, Int.reduceLE, Int.reduceEq, h8]); (refine hK _ ?_); (clear hK K)
 refine z0q fun K2 hK2 => ?_
 (refine zqm _ rfl (fun hc => ?_) (fun hc => ?_)) <;> (simp only [z06] at hc)
 ·obtain ⟨i, rfl⟩ : ∃ i, n = i + 1 := ⟨n - 1, by omega⟩
  have h8' : st.t 8 = .int .i64 (i : Int) := by rw [h8]; congr 1; omega
  refine zqk (hK2 _ ?_); clear hK2 K2 h8
  repeat refine zqj ?_
  refine z0q fun K2 hK2 => ?_
  refine zqi ?_
  repeat refine zqj ?_
  (refine zqh fun K hK => ?_); (simp only [go_sem, Nat.reduceBEq, Nat.reduceBeqDiff, Nat.reduceEqDiff, ↓reduceIte, reduceCtorEq, Nat.reduceAdd, Nat.reduceMul, Nat.reduceLeDiff, Nat.reduceLT, Int.reduceLT, Int.reduceLE, Int.reduceEq, h1, z2e, w5]); (refine hK _ ?_); (clear hK K)
  refine zqi (z3f (fun m st => ∃ cs : List Int, m <= b.length /\ st.t 0 = z2e a /\ st.t 1 = z2e b /\ st.t 5 = .ptr 0 0 /\ st.t 6 = .ptr 2 0 /\ st.t 7 = .fn 96 [.ptr 2 0, .ptr 0 0] /\ st.t 8 = .int .i64 (i : Int) /\ st.t 9 = .int .i64 ((m : Int) - 1) /\
   st.H 0 = some (.box 3 [.int .i64 ((b.length + 1 : Nat) : Int)]) /\ st.H 1 = some (.row 3 ((a.length + 1) * (b.length + 1)) (cs.map (D.int .i64))) /\ st.H 2 = some (.box 93 [.osl 1 ((a.length + 1) * (b.length + 1))]) /\
   Lcs.Known a b cs i m) b.length ?_ ?_)
  ·exact ⟨cs, Nat.le_refl _, h0, h1, h5, h6, h7, h8', rfl, hH0, hH1, hH2, Lcs.known_row O⟩
  clear h0 h1 h5 h6 h7 h8' hH0 hH1 hH2 O
  rintro m st ⟨cs, hm', h0, h1, h5, h6, h7, h8, h9, hH0, hH1, hH2, O⟩
  repeat refine zqj ?_
  (refine zqh fun K hK => ?_); (simp only [go_sem, Nat.reduceBEq, Nat.reduceBeqDiff, Nat.reduceEqDiff, ↓reduceIte, reduceCtorEq, Nat.reduceAdd, Nat.reduceMul, Nat.reduceLeDiff, Nat.reduceLT, Int.reduceLT, Int.reduceLE, Int.reduceEq, h9]); (refine hK _ ?_); (clear hK K)
  refine z0q fun K3 hK3 => ?_
  (refine zqm _ rfl (fun hc => ?_) (fun hc => ?_)) <;> (simp only [z06] at hc)
  ·obtain ⟨k, rfl⟩ : ∃ k, m = k + 1 := ⟨m - 1, by omega⟩
   have h9' : st.t 9 = .int .i64 (k : Int) := by rw [h9]; congr 1; omega
   refine zqk (hK3 _ ?_); clear hK3 K3 h9
   repeat refine zqj ?_
   refine z0q fun K3 hK3 => ?_
   refine zqi ?_
   repeat refine zqj ?_
   have wi : IntKind.i64.wrap ((i : Int) + 1) = ((i + 1 : Nat) : Int) := z28 (by omega)
   have wk : IntKind.i64.wrap ((k : Int) + 1) = ((k + 1 : Nat) : Int) := z28 (by omega)
   have v1 := O.2 (i + 1) k (by omega) (by omega) (.inl (by omega))
   have v2 := O.2 i (k + 1) (by omega) (by omega) (.inr (.inl ⟨rfl, by omega⟩))
   have v3 := O.2 (i + 1) (k + 1) (by omega) (by omega) (.inl (by omega))
   have l1 := Lcs.at_le a b (i + 1) k
   have l2 := Lcs.at_le a b i (k + 1)
   have l3 := Lcs.at_le a b (i + 1) (k + 1)
   have hcl : cs.length <= 100000 := by rw [O.1]; omega
   refine zqh fun K hK => ?_
   simp only [go_sem, Nat.reduceBEq, Nat.reduceBeqDiff, Nat.reduceEqDiff, ↓reduceIte, reduceCtorEq, Nat.reduceAdd, Nat.reduceMul, Nat.reduceLeDiff, Nat.reduceLT, Int.reduceLT, Int.reduceLE, Int.reduceEq, h7, h8, h9', wi, wk]
   refine z3t (rc36 (i + 1) k (b.length + 1) _ cs _ hH2 hH1 hH0 O.1 v1 hcl) ?_
   simp only [go_sem, Nat.reduceBEq, Nat.reduceBeqDiff, Nat.reduceEqDiff, ↓reduceIte, reduceCtorEq, Nat.reduceAdd, Nat.reduceMul, Nat.reduceLeDiff, Nat.reduceLT, Int.reduceLT, Int.reduceLE, Int.reduceEq, h7, h8, h9', wi, wk]
   refine z3t (rc36 i (k + 1) (b.length + 1) _ cs _ hH2 hH1 hH0 O.1 v2 hcl) ?_
   simp only [go_sem, Nat.reduceBEq, Nat.reduceBeqDiff, Nat.reduceEqDiff, ↓reduceIte, reduceCtorEq, Nat.reduceAdd, Nat.reduceMul, Nat.reduceLeDiff, Nat.reduceLT, Int.reduceLT, Int.reduceLE, Int.reduceEq, h7, h8, h9', wi, wk]
   refine hK _ ?_
   clear hK K
   have hlt : i * (b.length + 1) + k < (a.length + 1) * (b.length + 1) := Lcs.idx_lt (by omega) (by omega)
   have wm : IntKind.i64.wrap ((i : Int) * ((b.length + 1 : Nat) : Int)) = ((i * (b.length + 1) : Nat) : Int) := by rw [<- Int.natCast_mul]; exact z28 (by omega)
   have wp : IntKind.i64.wrap (((i * (b.length + 1) : Nat) : Int) + (k : Int)) = ((i * (b.length + 1) + k : Nat) : Int) := z28 (by omega)
   have hin : ((i * (b.length + 1) + k : Nat) : Int) < (((a.length + 1) * (b.length + 1) : Nat) : Int) := by omega
   have hin2 : i * (b.length + 1) + k + 1 <= (a.length + 1) * (b.length + 1) := by omega
   have hkl := O.1
   refine z0q fun K4 hK4 => ?_
   have tail : ∀ st' : St, st'.t 0 = z2e a -> st'.t 1 = z2e b -> st'.t 5 = .ptr 0 0 -> st'.t 6 = .ptr 2 0 -> st'.t 7 = .fn 96 [.ptr 2 0, .ptr 0 0] -> st'.t 8 = .int .i64 (i : Int) -> st'.t 9 = .int .i64 (k : Int) -> st'.t 10 = .int .i64 (Lcs.at_ a b i k : Int) ->
     st'.H 0 = some (.box 3 [.int .i64 ((b.length + 1 : Nat) : Int)]) -> st'.H 1 = some (.row 3 ((a.length + 1) * (b.length + 1)) (cs.map (D.int .i64))) -> st'.H 2 = some (.box 93 [.osl 1 ((a.length + 1) * (b.length + 1))]) -> K4 st' := by
    intro st' h0 h1 h5 h6 h7 h8 h9 h10 hH0 hH1 hH2
    refine hK4 _ ?_
    (refine z1y ?_); (simp only [go_sem, Nat.reduceBEq, Nat.reduceBeqDiff, Nat.reduceEqDiff, ↓reduceIte, reduceCtorEq, Nat.reduceAdd, Nat.reduceMul, Nat.reduceLeDiff, Nat.reduceLT, Int.reduceLT, Int.reduceLE, Int.reduceEq, h5, h6, h8, h9, h10, hH0, hH1, hH2, wm, wp, hin, hin2, hkl, zay])
    refine (show K3 _ from hK3 _ ?_)
    have wk2 : IntKind.i64.wrap ((k : Int) - 1) = (k : Int) - 1 := z28 (by omega)
    (refine z1y ?_); (simp only [go_sem, Nat.reduceBEq, Nat.reduceBeqDiff, Nat.reduceEqDiff, ↓reduceIte, reduceCtorEq, Nat.reduceAdd, Nat.reduceMul, Nat.reduceLeDiff, Nat.reduceLT, Int.reduceLT, Int.reduceLE, Int.reduceEq, h9, wk2])
    exact ⟨k, by omega, cs.set (i * (b.length + 1) + k) (Lcs.at_ a b i k : Int), by omega, h0, h1, h5, h6, h7, h8, rfl, hH0, rfl, hH2, Lcs.known_set (by omega) (by omega) O⟩
   have i1 := z2u D.str a i (by omega)
   have i2 := z2u D.str b k (by omega)
   have hst := Lcs.at_step a b i k (by omega) (by omega)
   (refine zqe (by decide +kernel) fun K hK => ?_); (simp only [go_sem, Nat.reduceBEq, Nat.reduceBeqDiff, Nat.reduceEqDiff, ↓reduceIte, reduceCtorEq, Nat.reduceAdd, Nat.reduceMul, Nat.reduceLeDiff, Nat.reduceLT, Int.reduceLT, Int.reduceLE, Int.reduceEq, h0, h1, h8, h9', i1, i2, z2e]); (refine hK _ ?_); (clear hK K)
   (refine zqm _ rfl (fun hc => ?_) (fun hc => ?_)) <;> (simp only [z06] at hc)
   ·have w6 : IntKind.i64.wrap ((Lcs.at_ a b (i + 1) (k + 1) : Int) + 1) = (Lcs.at_ a b (i + 1) (k + 1) : Int) + 1 := z28 (by omega)
    rw [if_pos hc] at hst
    refine z1y ?_
    simp only [go_sem, Nat.reduceBEq, Nat.reduceBeqDiff, Nat.reduceEqDiff, ↓reduceIte, reduceCtorEq, Nat.reduceAdd, Nat.reduceMul, Nat.reduceLeDiff, Nat.reduceLT, Int.reduceLT, Int.reduceLE, Int.reduceEq, h7, h8, h9', wi, wk]
    refine z3t (rc36 (i + 1) (k + 1) (b.length + 1) _ cs _ hH2 hH1 hH0 O.1 v3 hcl) ?_
    simp only [go_sem, Nat.reduceBEq, Nat.reduceBeqDiff, Nat.reduceEqDiff, ↓reduceIte, reduceCtorEq, Nat.reduceAdd, Nat.reduceMul, Nat.reduceLeDiff, Nat.reduceLT, Int.reduceLT, Int.reduceLE, Int.reduceEq, h7, h8, h9', wi, wk, w6]
    refine (show K4 _ from tail _ h0 h1 h5 h6 h7 h8 h9' ?_ hH0 hH1 hH2)
    show D.int .i64 _ = D.int .i64 _
    rw [hst]; congr 1; omega
   ·rw [if_neg hc] at hst
    refine zqk (tail _ h0 h1 h5 h6 h7 h8 h9' ?_ hH0 hH1 hH2)
    show D.int .i64 _ = D.int .i64 _
    rw [hst]; congr 1; omega
  ·refine zql (show K2 _ from hK2 _ ?_)
   obtain rfl : m = 0 := by omega
   have wi2 : IntKind.i64.wrap ((i : Int) - 1) = (i : Int) - 1 := z28 (by omega)
   (refine z1y ?_); (simp only [go_sem, Nat.reduceBEq, Nat.reduceBeqDiff, Nat.reduceEqDiff, ↓reduceIte, reduceCtorEq, Nat.reduceAdd, Nat.reduceMul, Nat.reduceLeDiff, Nat.reduceLT, Int.reduceLT, Int.reduceLE, Int.reduceEq, h8, wi2])
   exact ⟨i, by omega, cs, by omega, h0, h1, h5, h6, h7, rfl, hH0, hH1, hH2, O⟩
 ·refine zql (show K _ from hK _ ?_)
  obtain rfl : n = 0 := by omega
  have hcs := Lcs.known_all O
  subst hcs
  (refine zqh fun K hK => ?_); (simp only [go_sem, Nat.reduceBEq, Nat.reduceBeqDiff, Nat.reduceEqDiff, ↓reduceIte, reduceCtorEq, Nat.reduceAdd, Nat.reduceMul, Nat.reduceLeDiff, Nat.reduceLT, Int.reduceLT, Int.reduceLE, Int.reduceEq, h7]); (refine hK _ ?_); (clear hK K)
  (refine zqn ?_); (refine Exists.intro _ (And.intro rfl ?_))
  refine z8i (zib 3 rfl (z0e ?_ (z0e ?_ z4s)))
  ·exact z47 2 hH2 (by first | rfl | kernel_rfl) (z8h 0 hH1 z2n z52 (by simpa using Lcs.tab_len a b) (z0a (fun _ => rfl) _))
  ·exact z47 2 hH0 z2n (z0b _ rfl)
def atD (a b : List ByteArray) : D := .fn 96 [.rptr (z45 (Lcs.tab a b)), .rptr (.int .i64 ((b.length + 1 : Nat) : Int))]
theorem zns (a b : List ByteArray) : pureD (atD a b) = true := by simp only [atD, pureD, pureD.pureL, z46, Bool.and_self]
theorem pcAt (a b : List ByteArray) (ha : a.length <= 256) (hb : b.length <= 256) (i k : Nat) (hi : i <= a.length) (O : k <= b.length) : PC prog 96 [.int .i64 i, .int .i64 k, .rptr (z45 (Lcs.tab a b)), .rptr (.int .i64 ((b.length + 1 : Nat) : Int))] (.int .i64 (Lcs.at_ a b i k : Int)) :=
 pc36 i k (b.length + 1) (Lcs.tab a b) _ (Lcs.tab_get a b i k hi O) (by
  have hm : (a.length + 1) * (b.length + 1) <= 66049 := Nat.mul_le_mul (show a.length + 1 <= 257 by omega) (show b.length + 1 <= 257 by omega)
  rw [Lcs.tab_len]; omega)
set_option maxHeartbeats 2000000 in
theorem pc29 (a b : List ByteArray) (ha : a.length <= 256) (hb : b.length <= 256) (i k : Nat) (hi : i <= a.length) (O : k <= b.length) :
  PC prog 82 [.int .i64 i, .int .i64 k, .rptr (z2e a), .rptr (z2e b), .rptr (atD a b)] (.agg [.int .i64 ((Lcs.next a b i k).1 : Int), .int .i64 ((Lcs.next a b i k).2 : Int)]) := by
 refine z3q 2 (by simp only [pureD.pureL, pureD, z3n, zns, Bool.and_self]) rfl (z30 [] func82 rfl (by decide +kernel) rfl ?_)
 show awp _ _ (Code.seq _ _) _ _
 (refine zqh fun K hK => ?_); (simp only [go_sem, Nat.reduceBEq, Nat.reduceBeqDiff, Nat.reduceEqDiff, ↓reduceIte, reduceCtorEq, Nat.reduceAdd, Nat.reduceMul, Nat.reduceLeDiff, Nat.reduceLT, Int.reduceLT, Int.reduceLE, Int.reduceEq]); (refine hK _ ?_); (clear hK K)
 repeat refine zqj ?_
 (refine zqh fun K hK => ?_); (simp only [go_sem, Nat.reduceBEq, Nat.reduceBeqDiff, Nat.reduceEqDiff, ↓reduceIte, reduceCtorEq, Nat.reduceAdd, Nat.reduceMul, Nat.reduceLeDiff, Nat.reduceLT, Int.reduceLT, Int.reduceLE, Int.reduceEq, z2e, atD]); (refine hK _ ?_); (clear hK K)
 refine z0q fun K hK => ?_
 refine zqi (z3f (fun n st => ∃ x : Nat, n = a.length - x /\ x <= a.length /\ st.t 0 = .int .i64 i /\ st.t 1 = .int .i64 k /\ st.t 2 = .rptr (z2e a) /\ st.t 3 = .rptr (z2e b) /\ st.t 4 = .rptr (atD a b) /\ st.t 7 = .ptr 0 0 /\ st.t 8 = .int .i64 x /\
   st.H 0 = some (.box 90 [.int .i64 0, .int .i64 0]) /\ Lcs.search a b (Lcs.at_ a b i k) k i = Lcs.search a b (Lcs.at_ a b i k) k x) (a.length - i) ?_ ?_)
 ·exact ⟨i, rfl, hi, rfl, rfl, rfl, rfl, rfl, rfl, rfl, rfl, rfl⟩
 rintro n st ⟨x, rfl, hx, h0, h1, h2, h3, h4, h7, h8, hH, hs⟩
 repeat refine zqj ?_
 (refine zqh fun K hK => ?_); (simp only [go_sem, Nat.reduceBEq, Nat.reduceBeqDiff, Nat.reduceEqDiff, ↓reduceIte, reduceCtorEq, Nat.reduceAdd, Nat.reduceMul, Nat.reduceLeDiff, Nat.reduceLT, Int.reduceLT, Int.reduceLE, Int.reduceEq, h8, h2, z2e]); (refine hK _ ?_); (clear hK K)
 refine z0q fun K2 hK2 => ?_
 (refine zqm _ rfl (fun hc => ?_) (fun hc => ?_)) <;> (simp only [z06] at hc)
 ·have hx' : x < a.length := by omega
  refine zqk (hK2 _ ?_); clear hK2 K2
  refine z0q fun K2 hK2 => ?_
  refine zqi ?_
  repeat refine zqj ?_
  (refine zqh fun K hK => ?_); (simp only [go_sem, Nat.reduceBEq, Nat.reduceBeqDiff, Nat.reduceEqDiff, ↓reduceIte, reduceCtorEq, Nat.reduceAdd, Nat.reduceMul, Nat.reduceLeDiff, Nat.reduceLT, Int.reduceLT, Int.reduceLE, Int.reduceEq, h1]); (refine hK _ ?_); (clear hK K)
  refine zqi (z3f (fun n st => ∃ y : Nat, n = b.length - y /\ y <= b.length /\ st.t 0 = .int .i64 i /\ st.t 1 = .int .i64 k /\ st.t 2 = .rptr (z2e a) /\ st.t 3 = .rptr (z2e b) /\ st.t 4 = .rptr (atD a b) /\ st.t 7 = .ptr 0 0 /\ st.t 8 = .int .i64 x /\ st.t 9 = .int .i64 y /\
    st.H 0 = some (.box 90 [.int .i64 0, .int .i64 0]) /\ Lcs.inRow a b (Lcs.at_ a b i k) x k = Lcs.inRow a b (Lcs.at_ a b i k) x y) (b.length - k) ?_ ?_)
  ·exact ⟨k, rfl, O, h0, h1, h2, h3, h4, h7, h8, rfl, hH, rfl⟩
  clear h0 h1 h2 h3 h4 h7 h8 hH
  rintro n st ⟨y, rfl, hy, h0, h1, h2, h3, h4, h7, h8, h9, hH, hr⟩
  repeat refine zqj ?_
  (refine zqh fun K hK => ?_); (simp only [go_sem, Nat.reduceBEq, Nat.reduceBeqDiff, Nat.reduceEqDiff, ↓reduceIte, reduceCtorEq, Nat.reduceAdd, Nat.reduceMul, Nat.reduceLeDiff, Nat.reduceLT, Int.reduceLT, Int.reduceLE, Int.reduceEq, h9, h3, z2e]); (refine hK _ ?_); (clear hK K)
  refine z0q fun K3 hK3 => ?_
  (refine zqm _ rfl (fun hc => ?_) (fun hc => ?_)) <;> (simp only [z06] at hc)
  ·have hy' : y < b.length := by omega
   refine zqk (hK3 _ ?_); clear hK3 K3
   refine z0q fun K3 hK3 => ?_
   refine zqi ?_
   repeat refine zqj ?_
   have i1 := z2u D.str a x hx'
   have i2 := z2u D.str b y hy'
   have wx : IntKind.i64.wrap ((x : Int) + 1) = ((x + 1 : Nat) : Int) := z28 (by omega)
   have wy : IntKind.i64.wrap ((y : Int) + 1) = ((y + 1 : Nat) : Int) := z28 (by omega)
   have l1 := Lcs.at_le a b (x + 1) (y + 1)
   have wn : IntKind.i64.wrap ((Lcs.at_ a b (x + 1) (y + 1) : Int) + 1) = ((Lcs.at_ a b (x + 1) (y + 1) + 1 : Nat) : Int) := z28 (by omega)
   have hst := Lcs.inRow_step a b (Lcs.at_ a b i k) x y hy'
   have tail : ∀ st' : St, Lcs.inRow a b (Lcs.at_ a b i k) x k = Lcs.inRow a b (Lcs.at_ a b i k) x (y + 1) -> st'.t 0 = .int .i64 i -> st'.t 1 = .int .i64 k -> st'.t 2 = .rptr (z2e a) -> st'.t 3 = .rptr (z2e b) -> st'.t 4 = .rptr (atD a b) -> st'.t 7 = .ptr 0 0 -> st'.t 8 = .int .i64 x -> st'.t 9 = .int .i64 y ->
     st'.H 0 = some (.box 90 [.int .i64 0, .int .i64 0]) -> K3 st' := by
    intro st' hr h0 h1 h2 h3 h4 h7 h8 h9 hH
    refine hK3 _ ?_
    (refine z1y ?_); (simp only [go_sem, Nat.reduceBEq, Nat.reduceBeqDiff, Nat.reduceEqDiff, ↓reduceIte, reduceCtorEq, Nat.reduceAdd, Nat.reduceMul, Nat.reduceLeDiff, Nat.reduceLT, Int.reduceLT, Int.reduceLE, Int.reduceEq, h9, wy])
    exact ⟨b.length - (y + 1), by omega, y + 1, rfl, by omega, h0, h1, h2, h3, h4, h7, h8, rfl, hH, hr⟩
   have ea : a[x]? = some a[x] := List.getElem?_eq_getElem hx'
   have eb : b[y]? = some b[y] := List.getElem?_eq_getElem hy'
   by_cases c1 : a[x] = b[y]
   ·refine zqe (by decide +kernel) fun K hK => ?_
    simp only [go_sem, Nat.reduceBEq, Nat.reduceBeqDiff, Nat.reduceEqDiff, ↓reduceIte, reduceCtorEq, Nat.reduceAdd, Nat.reduceMul, Nat.reduceLeDiff, Nat.reduceLT, Int.reduceLT, Int.reduceLE, Int.reduceEq, h8, h9, h2, h3, h4, h0, h1, i1, i2, z2e, c1, wx, wy, atD]
    refine zqt (pcAt a b ha hb (x + 1) (y + 1) (by omega) (by omega)) ?_
    simp only [go_sem, Nat.reduceBEq, Nat.reduceBeqDiff, Nat.reduceEqDiff, ↓reduceIte, reduceCtorEq, Nat.reduceAdd, Nat.reduceMul, Nat.reduceLeDiff, Nat.reduceLT, Int.reduceLT, Int.reduceLE, Int.reduceEq, h8, h9, h2, h3, h4, h0, h1, i1, i2, z2e, c1, wx, wy, wn, atD]
    refine zqt (pcAt a b ha hb i k hi O) ?_
    simp only [go_sem, Nat.reduceBEq, Nat.reduceBeqDiff, Nat.reduceEqDiff, ↓reduceIte, reduceCtorEq, Nat.reduceAdd, Nat.reduceMul, Nat.reduceLeDiff, Nat.reduceLT, Int.reduceLT, Int.reduceLE, Int.reduceEq, h8, h9, h2, h3, h4, h0, h1, i1, i2, z2e, c1, wx, wy, wn, atD]
    refine hK _ ?_
    clear hK K
    (refine zqm _ rfl (fun hc => ?_) (fun hc => ?_)) <;> (simp only [z06] at hc)
    ·have hg : Lcs.good a b (Lcs.at_ a b i k) x y = true := by
      unfold Lcs.good
      rw [ea, eb, c1]
      have : Lcs.at_ a b (x + 1) (y + 1) + 1 = Lcs.at_ a b i k := by omega
      simp [this]
     (refine zqh fun K hK => ?_); (simp only [go_sem, Nat.reduceBEq, Nat.reduceBeqDiff, Nat.reduceEqDiff, ↓reduceIte, reduceCtorEq, Nat.reduceAdd, Nat.reduceMul, Nat.reduceLeDiff, Nat.reduceLT, Int.reduceLT, Int.reduceLE, Int.reduceEq, h8, h9, h7, hH]); (refine hK _ ?_); (clear hK K)
     (refine zqn ?_); (refine Exists.intro _ (And.intro ((show resD _ _ [.cell 7 90] = _ from (by simp only [go_sem, Nat.reduceBEq, Nat.reduceBeqDiff, Nat.reduceEqDiff, ↓reduceIte, reduceCtorEq, Nat.reduceAdd, Nat.reduceMul, Nat.reduceLeDiff, Nat.reduceLT, Int.reduceLT, Int.reduceLE, Int.reduceEq, h7]; rfl))) ?_))
     refine ⟨_, z0b 1 rfl, ?_⟩
     rw [if_pos hg] at hst
     have h9 := Lcs.search_step a b (Lcs.at_ a b i k) k x hx'
     rw [hr, hst] at h9
     unfold Lcs.next
     rw [hs, h9]
     exact Le.refl _
    ·refine zqk (tail _ ?_ h0 h1 h2 h3 h4 h7 h8 h9 hH)
     rw [hr, hst, if_neg]
     unfold Lcs.good
     simp only [Bool.and_eq_true, decide_eq_true_eq]
     omega
   ·(refine zqe (by decide +kernel) fun K hK => ?_); (simp only [go_sem, Nat.reduceBEq, Nat.reduceBeqDiff, Nat.reduceEqDiff, ↓reduceIte, reduceCtorEq, Nat.reduceAdd, Nat.reduceMul, Nat.reduceLeDiff, Nat.reduceLT, Int.reduceLT, Int.reduceLE, Int.reduceEq, h8, h9, h2, h3, i1, i2, z2e, c1]); (refine hK _ ?_); (clear hK K)
    refine zqm false rfl (fun hc => (by cases hc)) (fun _ => ?_)
    refine zqk (tail _ ?_ h0 h1 h2 h3 h4 h7 h8 h9 hH)
    rw [hr, hst, if_neg]
    unfold Lcs.good
    simp only [Bool.and_eq_true, decide_eq_true_eq, ea, eb, Option.some.injEq]
    exact fun h => c1 h.1
  ·refine zql (show K2 _ from hK2 _ ?_)
   have wx : IntKind.i64.wrap ((x : Int) + 1) = ((x + 1 : Nat) : Int) := z28 (by omega)
   (refine z1y ?_); (simp only [go_sem, Nat.reduceBEq, Nat.reduceBeqDiff, Nat.reduceEqDiff, ↓reduceIte, reduceCtorEq, Nat.reduceAdd, Nat.reduceMul, Nat.reduceLeDiff, Nat.reduceLT, Int.reduceLT, Int.reduceLE, Int.reduceEq, h8, wx])
   refine ⟨a.length - (x + 1), by omega, x + 1, rfl, by omega, h0, h1, h2, h3, h4, h7, rfl, hH, ?_⟩
   have h9 := Lcs.search_step a b (Lcs.at_ a b i k) k x hx'
   rw [hr, Lcs.inRow_end a b _ x y (by omega)] at h9
   rw [hs, h9]
 ·refine zql (show K _ from hK _ ?_)
  (refine zqh fun K hK => ?_); (simp only [go_sem, Nat.reduceBEq, Nat.reduceBeqDiff, Nat.reduceEqDiff, ↓reduceIte, reduceCtorEq, Nat.reduceAdd, Nat.reduceMul, Nat.reduceLeDiff, Nat.reduceLT, Int.reduceLT, Int.reduceLE, Int.reduceEq, h2, h3, h7, hH, z2e]); (refine hK _ ?_); (clear hK K)
  (refine zqn ?_); (refine Exists.intro _ (And.intro ((show resD _ _ [.cell 7 90] = _ from (by simp only [go_sem, Nat.reduceBEq, Nat.reduceBeqDiff, Nat.reduceEqDiff, ↓reduceIte, reduceCtorEq, Nat.reduceAdd, Nat.reduceMul, Nat.reduceLeDiff, Nat.reduceLT, Int.reduceLT, Int.reduceLE, Int.reduceEq, h7]; rfl))) ?_))
  refine ⟨_, z0b 1 rfl, ?_⟩
  unfold Lcs.next
  rw [hs, Lcs.search_end a b _ k x (by omega)]
  exact Le.refl _
theorem pc35 (a : List ByteArray) : PC prog 95 [z2e a] (.bool (decide (256 < (a.length : Int)))) := by
 refine z3q 1 (by simp only [pureD.pureL, z3n, Bool.and_self]) rfl (z30 [] func95 rfl (by decide +kernel) rfl ?_)
 show awp _ _ (Code.seq _ _) _ _
 (refine zqh fun K hK => ?_); (simp only [go_sem, Nat.reduceBEq, Nat.reduceBeqDiff, Nat.reduceEqDiff, ↓reduceIte, reduceCtorEq, Nat.reduceAdd, Nat.reduceMul, Nat.reduceLeDiff, Nat.reduceLT, Int.reduceLT, Int.reduceLE, Int.reduceEq]); (refine hK _ ?_); (clear hK K)
 (refine zqh fun K hK => ?_); (simp only [go_sem, Nat.reduceBEq, Nat.reduceBeqDiff, Nat.reduceEqDiff, ↓reduceIte, reduceCtorEq, Nat.reduceAdd, Nat.reduceMul, Nat.reduceLeDiff, Nat.reduceLT, Int.reduceLT, Int.reduceLE, Int.reduceEq, z2e]); (refine hK _ ?_); (clear hK K)
 (refine zqn ?_); (refine Exists.intro _ (And.intro rfl ?_))
 exact z05 rfl
def z35 (a : List ByteArray) : Bool := decide (256 < (a.length : Int))
def zhc (rows : List (List ByteArray)) : Int := match rows.findIdx? z35 with | some n => (n : Int) | none => -1
theorem zj1 (rows : List (List ByteArray)) : (0 <= zhc rows) ↔ rows.any z35 = true := by
 unfold zhc
 cases h : rows.findIdx? z35 with
 | none =>
  rw [List.findIdx?_eq_none_iff] at h
  simp only [List.any_eq_true]
  constructor
  ·intro h; omega
  ·rintro ⟨x, hx, hp⟩; rw [h x hx] at hp; cases hp
 | some i =>
  rw [List.findIdx?_eq_some_iff_getElem] at h
  obtain ⟨hi, hp, _⟩ := h
  simp only [List.any_eq_true]
  constructor
  ·intro _; exact ⟨_, List.getElem_mem hi, hp⟩
  ·intro _; omega
theorem zfc (nn : Bool) (rows : List (List ByteArray)) : pureD (.rsl nn 1 (rows.map z2e)) = true := by simp only [pureD]; exact z0a (fun x => z3n x) rows
set_option maxHeartbeats 2000000 in
theorem pc37 (nn : Bool) (rows : List (List ByteArray)) (hl : rows.length <= 1000) : PC prog 105 [.rsl nn 1 (rows.map z2e), .fn 95 []] (.int .i64 (zhc rows)) := by
 refine z3q 1 (by simp only [pureD.pureL, zfc]; rfl) rfl (z30 [] func105 rfl (by decide +kernel) rfl ?_)
 show awp _ _ (Code.seq _ _) _ _
 (refine zqh fun K hK => ?_); (simp only [go_sem, Nat.reduceBEq, Nat.reduceBeqDiff, Nat.reduceEqDiff, ↓reduceIte, reduceCtorEq, Nat.reduceAdd, Nat.reduceMul, Nat.reduceLeDiff, Nat.reduceLT, Int.reduceLT, Int.reduceLE, Int.reduceEq]); (refine hK _ ?_); (clear hK K)
 repeat refine zqj ?_
 (refine zqh fun K hK => ?_); (simp only [go_sem, Nat.reduceBEq, Nat.reduceBeqDiff, Nat.reduceEqDiff, ↓reduceIte, reduceCtorEq, Nat.reduceAdd, Nat.reduceMul, Nat.reduceLeDiff, Nat.reduceLT, Int.reduceLT, Int.reduceLE, Int.reduceEq]); (refine hK _ ?_); (clear hK K)
 refine z0q fun K hK => ?_
 refine zqi (z3f (fun n st => ∃ k : Nat, n = rows.length - k /\ k <= rows.length /\ st.t 0 = .rsl nn 1 (rows.map z2e) /\ st.t 1 = .fn 95 [] /\ st.t 7 = .int .i64 rows.length /\ st.t 8 = .int .i64 k /\ ∀ j, ∀ h : j < rows.length, j < k -> z35 rows[j] = false) rows.length ?_ ?_)
 ·exact ⟨0, by simp, by simp, rfl, rfl, rfl, rfl, fun j _ h => by omega⟩
 rintro n st ⟨k, rfl, O, h0, h1, h7, h8, hj⟩
 repeat refine zqj ?_
 (refine zqh fun K hK => ?_); (simp only [go_sem, Nat.reduceBEq, Nat.reduceBeqDiff, Nat.reduceEqDiff, ↓reduceIte, reduceCtorEq, Nat.reduceAdd, Nat.reduceMul, Nat.reduceLeDiff, Nat.reduceLT, Int.reduceLT, Int.reduceLE, Int.reduceEq, h8, h7]); (refine hK _ ?_); (clear hK K)
 refine z0q fun K2 hK2 => ?_
 (refine zqm _ rfl (fun hc => ?_) (fun hc => ?_)) <;> (simp only [z06] at hc)
 ·have hk' : k < rows.length := by omega
  refine zqk (hK2 _ ?_); clear hK2 K2
  refine z0q fun K2 hK2 => ?_
  refine zqi ?_
  repeat refine zqj ?_
  have i1 := z2u z2e rows k hk'
  have wk : IntKind.i64.wrap ((k : Int) + 1) = ((k + 1 : Nat) : Int) := z28 (by omega)
  (refine zqh fun K hK => ?_); (simp only [go_sem, Nat.reduceBEq, Nat.reduceBeqDiff, Nat.reduceEqDiff, ↓reduceIte, reduceCtorEq, Nat.reduceAdd, Nat.reduceMul, Nat.reduceLeDiff, Nat.reduceLT, Int.reduceLT, Int.reduceLE, Int.reduceEq, h8]); (refine hK _ ?_); (clear hK K)
  repeat refine zqj ?_
  refine zqh fun K hK => ?_
  simp only [go_sem, Nat.reduceBEq, Nat.reduceBeqDiff, Nat.reduceEqDiff, ↓reduceIte, reduceCtorEq, Nat.reduceAdd, Nat.reduceMul, Nat.reduceLeDiff, Nat.reduceLT, Int.reduceLT, Int.reduceLE, Int.reduceEq, h0, h1, h8, i1, z2e]
  refine zqs (pc35 rows[k]) ?_
  simp only [go_sem, Nat.reduceBEq, Nat.reduceBeqDiff, Nat.reduceEqDiff, ↓reduceIte, reduceCtorEq, Nat.reduceAdd, Nat.reduceMul, Nat.reduceLeDiff, Nat.reduceLT, Int.reduceLT, Int.reduceLE, Int.reduceEq]
  refine hK _ ?_
  clear hK K
  (refine zqm _ rfl (fun hc => ?_) (fun hc => ?_)) <;> (simp only [z06] at hc)
  ·(refine zqh fun K hK => ?_); (simp only [go_sem, Nat.reduceBEq, Nat.reduceBeqDiff, Nat.reduceEqDiff, ↓reduceIte, reduceCtorEq, Nat.reduceAdd, Nat.reduceMul, Nat.reduceLeDiff, Nat.reduceLT, Int.reduceLT, Int.reduceLE, Int.reduceEq, h8]); (refine hK _ ?_); (clear hK K)
   (refine zqn ?_); (refine Exists.intro _ (And.intro rfl ?_))
   refine z2v ?_
   have : rows.findIdx? z35 = some k := by
    rw [List.findIdx?_eq_some_iff_getElem]
    exact ⟨hk', by unfold z35; simp [hc], fun j hjk => by rw [hj j (by omega) hjk]; simp⟩
   unfold zhc; rw [this]
  ·refine zqk (show K2 _ from hK2 _ ?_)
   (refine z1y ?_); (simp only [go_sem, Nat.reduceBEq, Nat.reduceBeqDiff, Nat.reduceEqDiff, ↓reduceIte, reduceCtorEq, Nat.reduceAdd, Nat.reduceMul, Nat.reduceLeDiff, Nat.reduceLT, Int.reduceLT, Int.reduceLE, Int.reduceEq, h8, wk])
   refine ⟨rows.length - (k + 1), by omega, k + 1, rfl, by omega, h0, h1, h7, rfl, fun j h hjk => ?_⟩
   by_cases he : j = k
   ·subst he; unfold z35; simpa using hc
   ·exact hj j h (by omega)
 ·refine zql (show K _ from hK _ ?_)
  (refine zqh fun K hK => ?_); (simp only [go_sem, Nat.reduceBEq, Nat.reduceBeqDiff, Nat.reduceEqDiff, ↓reduceIte, reduceCtorEq, Nat.reduceAdd, Nat.reduceMul, Nat.reduceLeDiff, Nat.reduceLT, Int.reduceLT, Int.reduceLE, Int.reduceEq]); (refine hK _ ?_); (clear hK K)
  (refine zqn ?_); (refine Exists.intro _ (And.intro rfl ?_))
  refine z2v ?_
  have : rows.findIdx? z35 = none := by
   rw [List.findIdx?_eq_none_iff]
   intro x hx
   obtain ⟨j, hj', rfl⟩ := List.getElem_of_mem hx
   exact hj j hj' (by omega)
  unfold zhc; rw [this]
theorem pc34 (nn : Bool) (rows : List (List ByteArray)) (hl : rows.length <= 1000) : PC prog 94 [.rsl nn 1 (rows.map z2e), .fn 95 []] (.bool (rows.any z35)) := by
 refine z3q 1 (by simp only [pureD.pureL, zfc]; rfl) rfl (z30 [] func94 rfl (by decide +kernel) rfl ?_)
 show awp _ _ (Code.seq _ _) _ _
 (refine zqh fun K hK => ?_); (simp only [go_sem, Nat.reduceBEq, Nat.reduceBeqDiff, Nat.reduceEqDiff, ↓reduceIte, reduceCtorEq, Nat.reduceAdd, Nat.reduceMul, Nat.reduceLeDiff, Nat.reduceLT, Int.reduceLT, Int.reduceLE, Int.reduceEq]); (refine hK _ ?_); (clear hK K)
 refine zqh fun K hK => ?_
 simp only [go_sem, Nat.reduceBEq, Nat.reduceBeqDiff, Nat.reduceEqDiff, ↓reduceIte, reduceCtorEq, Nat.reduceAdd, Nat.reduceMul, Nat.reduceLeDiff, Nat.reduceLT, Int.reduceLT, Int.reduceLE, Int.reduceEq]
 refine zqs (pc37 nn rows hl) ?_
 simp only [go_sem, Nat.reduceBEq, Nat.reduceBeqDiff, Nat.reduceEqDiff, ↓reduceIte, reduceCtorEq, Nat.reduceAdd, Nat.reduceMul, Nat.reduceLeDiff, Nat.reduceLT, Int.reduceLT, Int.reduceLE, Int.reduceEq]
 refine hK _ ?_
 clear hK K
 (refine zqn ?_); (refine Exists.intro _ (And.intro rfl ?_))
 refine z05 ?_
 have := zj1 rows
 by_cases h : 0 <= zhc rows
 ·rw [this.1 h]; simp [h]
 ·have h2 : rows.any z35 = false := by
   cases hq : rows.any z35 with
   | true => exact (h (this.2 hq)).elim
   | false => rfl
  rw [h2]; simp [h]
theorem pc27 (nn : Bool) (rows : List (List ByteArray)) (hl : rows.length <= 1000) : PC prog 80 [.rsl nn 1 (rows.map z2e)] (.bool (rows.any z35)) := by
 refine z3q 1 (by simp only [pureD.pureL, zfc]; rfl) rfl (z30 [] func80 rfl (by decide +kernel) rfl ?_)
 show awp _ _ (Code.seq _ _) _ _
 (refine zqh fun K hK => ?_); (simp only [go_sem, Nat.reduceBEq, Nat.reduceBeqDiff, Nat.reduceEqDiff, ↓reduceIte, reduceCtorEq, Nat.reduceAdd, Nat.reduceMul, Nat.reduceLeDiff, Nat.reduceLT, Int.reduceLT, Int.reduceLE, Int.reduceEq]); (refine hK _ ?_); (clear hK K)
 refine zqh fun K hK => ?_
 simp only [go_sem, Nat.reduceBEq, Nat.reduceBeqDiff, Nat.reduceEqDiff, ↓reduceIte, reduceCtorEq, Nat.reduceAdd, Nat.reduceMul, Nat.reduceLeDiff, Nat.reduceLT, Int.reduceLT, Int.reduceLE, Int.reduceEq]
 refine zqs (pc34 nn rows hl) ?_
 simp only [go_sem, Nat.reduceBEq, Nat.reduceBeqDiff, Nat.reduceEqDiff, ↓reduceIte, reduceCtorEq, Nat.reduceAdd, Nat.reduceMul, Nat.reduceLeDiff, Nat.reduceLT, Int.reduceLT, Int.reduceLE, Int.reduceEq]
 refine hK _ ?_
 clear hK K
 (refine zqn ?_); (refine Exists.intro _ (And.intro rfl ?_))
 exact z05 rfl
end
end Go.Proofs.YtfechgagcgbldaaDoor
