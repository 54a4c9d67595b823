/-
 The contracts of slices.Insert at units, over abstract values.
-/
import Derived.Test.YtkhjpcmpljpmjaaGreatDoorInsert
import Derived.Test.YtkhjpcmpljpmjaaGreatDoorDelete
set_option maxRecDepth 100000
set_option linter.unusedSimpArgs false
set_option linter.unusedVariables false
namespace Go.Proofs.YtkhjpcmpljpmjaaGreatDoor
open Abs Facts Go.Lib Go.RowKit
theorem src_apart {P : Program} {s : RS} {w : World} (h : RH P s w) {nn : Bool} {sz : Nat} {els : List D} {v : Value} {a : Addr} {m c : Nat} (hr : rel s (.rsl nn sz els) v) (hv : v = .slice (some a) m c) (hpos : 0 < els.length) (hsz : 0 < sz) : ¬ owned s a.block := by
 simp only [rel] at hr
 rcases hr with ⟨_, rfl, _⟩ | ⟨a', cap, vs, rfl, _, _, hra, hlies⟩
 ·simp at hpos
 ·cases hv
  have hl := relAll_length hra
  have h0 : vs[0]? = some vs[0] := List.getElem?_eq_getElem (by omega)
  obtain ⟨h1, h2⟩ := hlies 0 _ h0
  have h7 : 0 < (vs[0]).cells.toList.length := by rw [Array.length_toList]; omega
  have h3 := List.getElem?_eq_getElem h7
  have h4 := h2 0 _ h3
  have h5 := (h.mem _ _ h4).2
  have h6 : ((a.add (0 * sz)).add 0).block = a.block := by
   have hb : ∀ (x : Addr) (k : Nat), (x.add k).block = x.block := fun x k => by unfold Addr.add; split <;> rfl
   rw [hb, hb]
  rw [h6] at h5
  exact h5
set_option maxHeartbeats 2000000 in
theorem ac_Insert {H : HM} {nx id n i : Nat} {nn : Bool} {cs us els : List D} (hid : H id = some (.row 27 n cs)) (hi : i ≤ n) (hm : 0 < els.length) (hus : cellsAll 8 els = some us) (hb : n + els.length ≤ 1000000000) :
  AC Tryz.prog 92 [.osl id n, .int .i64 i, .rsl nn 8 els] H nx fun r H' nx' => r = .osl id (n + els.length) ∧ H' = updH H id (some (.row 27 (n + els.length) (cs.take (i * 8) ++ us ++ cs.drop (i * 8)))) ∧ nx' = nx := by
 refine ⟨⟨_, Tryz.func92, by kernel_rfl, by kernel_rfl⟩, fun s w vs h1 h2 h h4 => ?_⟩
 subst h1; subst h2
 simp only [relAll] at h4
 obtain ⟨v, r1, rfl, hv, v2, r2, rfl, hv2, v3, r3, rfl, hv3, rfl⟩ := h4
 simp only [rel] at hv hv2
 subst hv2
 obtain ⟨hidn, _, hlive⟩ := hv
 have hv := (hlive _ _ _ hid).2 rfl
 subst hv
 obtain ⟨xs, ho, hrv, hov, _, _⟩ := row_cells h hid
 rw [sizeT27] at ho
 have hsrc := source_sound h (e := 27) (n := 8) (m := els.length) (news := us) (by omega) (y := .rsl nn 8 els) sizeT27 (by simp only [sourceD, if_true, hus, Option.map_some]) hv3
 rcases hsrc with ⟨_, h0, _⟩ | ⟨a, c, ws, rfl, hrw, how, hwl, hwc⟩
 ·omega
 ·have hap := src_apart h hv3 rfl hm (by omega)
  have hbt : bytesT Tryz.prog 27 ≤ 1000 := by
   have : decide (bytesT Tryz.prog 27 ≤ 1000) = true := by kernel_rfl
   exact of_decide_eq_true this
  have hne : (s.κ id).ownBlock ≠ some a.block := by
   rw [own_eq_block ho]
   exact fun h5 => hap ⟨id, hidn, by rw [hid]; simp, h5⟩
  refine (insert_any (w := w) (v := s.κ id) (n := n) (i := i) (m := els.length) (vc := c) (va := a) (xs := xs) (vs := ws) hi hm ho hov
   (by have := Nat.mul_le_mul hb hbt; omega) (by unfold maxLen; omega) hne hwl hwc how).mono ?_
  rintro e w' ⟨v', rfl, hown, hg, hbl⟩
  obtain ⟨g1, g2⟩ := set_obj (w' := w') h id (.row 27 n cs) (.row 27 (n + els.length) (cs.take (i * 8) ++ us ++ cs.drop (i * 8))) v' hid hg.os hg.tape hg.output hg.size
   (fun k hk hne => hg.block k hk (by rw [own_eq_block ho]; exact hne))
   (.inr ⟨n + els.length, _, rfl, Nat.le_add_right _ _, fun hnm => by omega⟩)
   (fun b hb => hbl b hb)
   (fun hl => ⟨xs.take (i * 8) ++ ws ++ xs.drop (i * 8), by rw [sizeT27]; exact hown, relAll.later hl _ _ (relAll_append (relAll_append (relAll_take _ hrv) hrw) (relAll_drop _ hrv)), ones_append (ones_append (ones_take hov _) how) (ones_drop hov _)⟩)
  refine ⟨v', .osl id (n + els.length), s.set id v' (.row 27 (n + els.length) (cs.take (i * 8) ++ us ++ cs.drop (i * 8))), rfl, ⟨rfl, rfl, rfl⟩, g1, g2, ?_⟩
  simp only [rel]
  obtain ⟨a2, c2, hvs⟩ := own_slice hown
  refine ⟨hidn, ⟨a2, c2, hvs⟩, fun e2 k2 cs2 hH => ?_⟩
  simp only [RS.set, updH, if_true, Option.some.injEq, HObj.row.injEq] at hH
  obtain ⟨_, rfl, _⟩ := hH
  exact ⟨Nat.le_refl _, fun _ => by simp [RS.set]⟩
def mvS (s : RS) (id : Nat) (v : Value) (o : HObj) : RS := { s with κ := fun j => if j = s.nx then v else s.κ j, H := updH (updH s.H id none) s.nx (some o), nx := s.nx + 1 }
theorem move_obj {P : Program} {s : RS} {w w' : World} (h : RH P s w) (id : Nat) {e : TypeId} {n : Nat} {cs : List D} (o' : HObj) (v : Value) (hid : s.H id = some (.row e n cs))
  (hos : w'.os = w.os) (ht : w'.tape = w.tape) (hout : w'.output = w.output) (hsz : w.heap.size ≤ w'.heap.size)
  (hold : ∀ k, k < w.heap.size → some k ≠ blockOf (s.κ id) → w'.heap[k]? = w.heap[k]?)
  (hb : ∀ b, blockOf v = some b → blockOf (s.κ id) = some b ∨ w.heap.size ≤ b) (hok : Later s (mvS s id v o') → objOK P (mvS s id v o') w' v o') :
  Step s w (mvS s id v o') w' ∧ RH P (mvS s id v o') w' := by
 have hidn := (h.obj id _ hid).1
 have hHo : ∀ j, j ≠ s.nx → j ≠ id → (mvS s id v o').H j = s.H j ∧ (mvS s id v o').κ j = s.κ j := fun j h1 h2 => by
  simp only [mvS, updH, if_neg h1, if_neg h2, and_self]
 have hHn : (mvS s id v o').H s.nx = some o' ∧ (mvS s id v o').κ s.nx = v := by simp only [mvS, updH, if_true, and_self]
 have hHi : (mvS s id v o').H id = none := by simp only [mvS, updH, if_neg (show ¬ id = s.nx by omega), if_true]
 have hl : Later s (mvS s id v o') := by
  refine ⟨Nat.le_succ _, fun a u hm => hm, fun j hj => ?_⟩
  by_cases hji : j = id
  ·subst hji; rw [hHi, hid]; exact .inl rfl
  ·obtain ⟨h1, h2⟩ := hHo j (by omega) hji
   rw [h1, h2]; exact objLe.refl _ _
 have hok := hok hl
 have hown : ∀ k, owned (mvS s id v o') k → owned s k ∨ w.heap.size ≤ k := by
  rintro k ⟨j, hj, hH, hk⟩
  by_cases hjn : j = s.nx
  ·subst hjn
   rw [hHn.2] at hk
   rcases hb k hk with h1 | h1
   ·exact .inl ⟨id, hidn, by rw [hid]; simp, h1⟩
   ·exact .inr h1
  ·by_cases hji : j = id
   ·subst hji; exact absurd hHi hH
   ·obtain ⟨h1, h2⟩ := hHo j hjn hji
    rw [h1] at hH; rw [h2] at hk
    exact .inl ⟨j, h.fresh hH, hH, hk⟩
 refine ⟨⟨hos, ht, hout, hsz, hl.nx, hl.mem, fun a u hm => .inl hm, hl.objs, fun k hk ho => hold k hk (fun e => ho ⟨id, hidn, by rw [hid]; simp, e.symm⟩), hown⟩, ?_, ?_, ?_, fun g => rel.later hl _ _ (h.glob g)⟩
 ·intro a u hm
  have hlt := h.mem_lt hm
  obtain ⟨h1, h2⟩ := h.mem a u hm
  have hne : some a.block ≠ blockOf (s.κ id) := fun e => h2 ⟨id, hidn, by rw [hid]; simp, e.symm⟩
  refine ⟨by rw [cell_of_heap (hold _ hlt hne)]; exact h1, fun ho => ?_⟩
  rcases hown _ ho with h3 | h3
  ·exact h2 h3
  ·omega
 ·intro j oj ho'
  by_cases hjn : j = s.nx
  ·subst hjn
   rw [hHn.1] at ho'
   cases ho'
   rw [hHn.2]
   exact ⟨Nat.lt_succ_self _, hok⟩
  ·by_cases hji : j = id
   ·subst hji; rw [hHi] at ho'; cases ho'
   ·obtain ⟨g1, g2⟩ := hHo j hjn hji
    rw [g1] at ho'
    rw [g2]
    obtain ⟨h1, h2⟩ := h.obj j oj ho'
    refine ⟨Nat.lt_succ_of_lt h1, h2.mono hl fun b hb' => hold b (h2.lt hb') fun e => ?_⟩
    exact h.apart j id (by rw [ho']; simp) (by rw [hid]; simp) hji (by rw [hb']; simp) (by rw [hb', e])
 ·have key : ∀ j, j ≠ s.nx → j ≠ id → s.H j ≠ none → blockOf v ≠ none → blockOf v ≠ blockOf (s.κ j) := fun j h1 h2 h3 h4 e => by
   cases hbv : blockOf v with
   | none => exact h4 hbv
   | some b =>
    cases hs : s.H j with
    | none => exact h3 hs
    | some oj =>
     have hlt := (h.obj j oj hs).2.lt (b := b) (by rw [← e, hbv])
     rcases hb b hbv with h5 | h5
     ·exact h.apart j id h3 (by rw [hid]; simp) h2 (by rw [← e, hbv]; simp) (by rw [← e, hbv, h5])
     ·omega
  intro i j hi hj hij hbi
  have hi2 : i ≠ id := fun e => hi (by rw [e]; exact hHi)
  have hj2 : j ≠ id := fun e => hj (by rw [e]; exact hHi)
  by_cases h1 : i = s.nx
  ·subst h1
   have hjn : j ≠ s.nx := fun e => hij e.symm
   rw [hHn.2] at hbi ⊢
   rw [(hHo j hjn hj2).1] at hj
   rw [(hHo j hjn hj2).2]
   exact key j hjn hj2 hj hbi
  ·rw [(hHo i h1 hi2).1] at hi
   rw [(hHo i h1 hi2).2] at hbi ⊢
   by_cases h2 : j = s.nx
   ·subst h2
    rw [hHn.2]
    exact fun e => key i h1 hi2 hi (by rw [← e]; exact hbi) e.symm
   ·rw [(hHo j h2 hj2).1] at hj
    rw [(hHo j h2 hj2).2]
    exact h.apart i j hi hj hij hbi
set_option maxHeartbeats 2000000 in
theorem ac_Delete {H : HM} {nx id n i j : Nat} {cs : List D} (hid : H id = some (.row 27 n cs)) (hij : i < j) (hj : j ≤ n) :
  AC Tryz.prog 101 [.osl id n, .int .i64 i, .int .i64 j] H nx fun r H' nx' => r = .osl nx (i + (n - j)) ∧ H' = updH (updH H id none) nx (some (.row 27 (i + (n - j)) (cs.take (i * 8) ++ cs.drop (j * 8)))) ∧ nx' = nx + 1 := by
 refine ⟨⟨_, Tryz.func101, by kernel_rfl, by kernel_rfl⟩, fun s w vs h1 h2 h h4 => ?_⟩
 subst h1; subst h2
 simp only [relAll] at h4
 obtain ⟨v, r1, rfl, hv, v2, r2, rfl, hv2, v3, r3, rfl, hv3, rfl⟩ := h4
 simp only [rel] at hv hv2 hv3
 subst hv2; subst hv3
 obtain ⟨hidn, _, hlive⟩ := hv
 have hv := (hlive _ _ _ hid).2 rfl
 subst hv
 obtain ⟨xs, ho, hrv, hov, _, _⟩ := row_cells h hid
 rw [sizeT27] at ho
 refine (delete_any (w := w) (v := s.κ id) (n := n) (i := i) (j := j) (xs := xs) hij hj ho hov).mono ?_
 rintro e w' ⟨v', rfl, hown, hg, hbl⟩
 obtain ⟨g1, g2⟩ := move_obj (w' := w') h id (.row 27 (i + (n - j)) (cs.take (i * 8) ++ cs.drop (j * 8))) v' hid hg.os hg.tape hg.output hg.size
  (fun k hk hne => hg.block k hk (by rw [own_eq_block ho]; exact hne))
  (fun b hb => .inl (by rw [← hbl]; exact hb))
  (fun hl => ⟨xs.take (i * 8) ++ xs.drop (j * 8), by rw [sizeT27]; exact hown, relAll.later hl _ _ (relAll_append (relAll_take _ hrv) (relAll_drop _ hrv)), ones_append (ones_take hov _) (ones_drop hov _)⟩)
 refine ⟨v', .osl s.nx (i + (n - j)), mvS s id v' (.row 27 (i + (n - j)) (cs.take (i * 8) ++ cs.drop (j * 8))), rfl, ⟨rfl, rfl, rfl⟩, g1, g2, ?_⟩
 simp only [rel]
 obtain ⟨a2, c2, hvs⟩ := own_slice hown
 refine ⟨Nat.lt_succ_self _, ⟨a2, c2, hvs⟩, fun e2 k2 cs2 hH => ?_⟩
 simp only [mvS, updH, if_true, Option.some.injEq, HObj.row.injEq] at hH
 obtain ⟨_, rfl, _⟩ := hH
 exact ⟨Nat.le_refl _, fun _ => by simp [mvS]⟩
end Go.Proofs.YtkhjpcmpljpmjaaGreatDoor
