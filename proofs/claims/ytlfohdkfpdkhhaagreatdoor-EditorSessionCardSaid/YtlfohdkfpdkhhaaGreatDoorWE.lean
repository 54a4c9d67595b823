import Derived.Test.YtlfohdkfpdkhhaaGreatDoorWD
/-
 Lemmas of the claim. No condition but those that each names.
-/
set_option linter.unusedSimpArgs false
set_option linter.unusedVariables false
set_option maxRecDepth 100000
set_option maxHeartbeats 8000000
set_option linter.unusedSectionVars false
namespace Go.Proofs.YtlfohdkfpdkhhaaGreatDoor
section
open Abs Facts Go.Lib Go.Shelf Go.RowKit
theorem zez {P : Program} {ops : Array Oper} {o : Oper} {a : Act} {w : World} {K : Act -> World -> Prop} {Q : Exit -> Act -> World -> Prop} {E : Prop}
  (hg : o.guard = none) (d x : Operand) (dT sT : TypeId) (hop : o.op = Op.call { callee := Callee.builtin Builtin.append, args := #[d, x], argTypes := #[dT, sT] })
  (v u : Value) (V : a.eval d = v) (hx : a.eval x = u) {v' : Value} {w' : World} (hr : (Builtin.append_ #[dT, sT] o.type #[v, u]).run P w = .ok v' w') (J : K (a.put o.dst v') w') :
  if Region.wanted o (yielded ops a.tmps) = true then Oper.wp P o a w K Q else E := by
 have hw : Region.wanted o (yielded ops a.tmps) = true := by simp [Region.wanted, hg]
 rw [if_pos hw]
 unfold Oper.wp
 simp [execOp, hop, resolve, invoke, builtin, V, hx, hr, Result.andThen]
 exact J
theorem zzq {α : Type} {A M C R : List α} {i k m : Nat} (zs : List α) (hA : A.length = i) (hM : M.length = k) (hC : C.length = m) (hz : zs.length = k) :
  let c1 := (A ++ M ++ C ++ R).take i ++ C ++ (A ++ M ++ C ++ R).drop (i + m)
  c1.take (i + m) ++ zs ++ c1.drop (i + m + k) = A ++ C ++ zs ++ R := by
 intro c1
 have h1 : (A ++ M ++ C ++ R).take i = A := by rw [List.append_assoc, List.append_assoc, List.take_append_of_le_length (by omega), List.take_of_length_le (by omega)]
 have hl : (A ++ M ++ C ++ R).length = i + k + m + R.length := by simp only [List.length_append]; omega
 have hc : c1 = A ++ C ++ (A ++ M ++ C ++ R).drop (i + m) := by show _ ++ C ++ _ = _; rw [h1]
 have hac : (A ++ C).length = i + m := by rw [List.length_append]; omega
 rw [hc]
 have e1 : (A ++ C ++ (A ++ M ++ C ++ R).drop (i + m)).take (i + m) = A ++ C := by rw [List.take_append_of_le_length (by omega), List.take_of_length_le (by omega)]
 have e2 : (A ++ C ++ (A ++ M ++ C ++ R).drop (i + m)).drop (i + m + k) = R := by
  rw [List.drop_append, List.drop_of_length_le (by omega), List.nil_append, hac, Nat.add_sub_cancel_left, List.drop_drop, List.drop_append, List.drop_of_length_le (by simp only [List.length_append]; omega), List.nil_append]
  have : i + m + k - (A ++ M ++ C).length = 0 := by simp only [List.length_append]; omega
  rw [this, List.drop_zero]
 rw [e1, e2]
set_option maxHeartbeats 4000000 in
theorem del_row {w : World} {g n cap i j : Nat} {cur : Array Value} {A M C R : List Value} (hij : i < j) (hj : j <= n) (hnc : n <= cap) (hc63 : cap <= 9223372036854775807)
  (hg : w.heap[g]? = some (.cells cur 27 (0, 0))) (hcur : cur.toList = A ++ M ++ C ++ R) (hA : A.length = i * 8) (hM : M.length = (j - i) * 8) (hC : C.length = (n - j) * 8) (h1c : ∀ v ∈ C, v.oneCell' = true) :
  Calls Tryz.prog 182 #[.slice (some ⟨g, 0, none⟩) n cap, .int .i64 i, .int .i64 j] w fun e w2 => e = .returned (.slice (some ⟨g, 0, none⟩) (i + (n - j)) cap) /\ ∃ zs : List Value, zs.length = (j - i) * 8 /\ w2 = w.drew.setRow g (A ++ C ++ zs ++ R).toArray := by
 have t25 : Tryz.prog.underlying 25 = some (.slice 27) := rfl
 have hsz : (Tryz.prog.info? 27).map (·.size) = some 8 := rfl
 obtain ⟨i0, z, hi0, hz0, hzs⟩ := z5y (P := Tryz.prog) (t := 27) (by kernel_rfl)
 have hi8 : i0.size = 8 := by rw [hi0] at hsz; simpa using hsz
 have hzs8 : z.cells.size = 8 := by rw [hzs]; exact z2s
 have hzv : ∀ w, (zeroValue 27).run Tryz.prog w = .ok z w := fun w => by simp [zeroValue, typeInfo, hi0, hz0]
 have hsl : cur.size = i * 8 + (j - i) * 8 + (n - j) * 8 + R.length := by rw [<- Array.length_toList, hcur]; simp only [List.length_append]; omega
 obtain ⟨ad, had, hsrc⟩ : ∃ ad : Addr, (if cap = j then some (⟨g, 0, none⟩ : Addr) else some ⟨g, j * 8, none⟩) = some ad /\ ∀ t u, C[t]? = some u -> w.drew.cell? (ad.add t) = some u := by
  by_cases h : cap = j
  ·refine ⟨⟨g, 0, none⟩, by simp [h], fun t u hu => ?_⟩
   have : C = [] := List.eq_nil_of_length_eq_zero (by rw [hC]; omega)
   rw [this] at hu; simp at hu
  ·refine ⟨⟨g, j * 8, none⟩, by simp [h], fun t u hu => ?_⟩
   rw [Addr.add_lit]
   show w.cell? _ = _
   have h2 : cur.toList[j * 8 + t]? = some u := by
    rw [hcur, List.append_assoc, List.getElem?_append_right (by simp only [List.length_append]; omega)]
    have h3 : j * 8 + t - (A ++ M).length = t := by simp only [List.length_append]; omega
    rw [h3, List.getElem?_append_left ((List.getElem?_eq_some_iff.1 hu).1)]
    exact hu
   simp only [World.cell?, hg]
   simpa using h2
 obtain ⟨c1, hc1⟩ : ∃ c1, c1 = (A ++ M ++ C ++ R).take (i * 8) ++ C ++ (A ++ M ++ C ++ R).drop (i * 8 + (n - j) * 8) := ⟨_, rfl⟩
 have hcl : c1.length = cur.size := by
  rw [hc1]; simp only [List.length_append, List.length_take, List.length_drop]; omega
 have hap : ∀ ty dc, (Builtin.append_ #[25, 25] ty #[.slice (some ⟨g, 0, none⟩) i cap, .slice (some ad) (n - j) dc]).run Tryz.prog w.drew = .ok (.slice (some ⟨g, 0, none⟩) (i + (n - j)) cap) (w.drew.setRow g c1.toArray) := fun ty dc => by
  have h := run_append_room (P := Tryz.prog) w.drew 25 ty 27 i0 t25 hi0 g i cap cur hg ad (n - j) dc C (by rw [hC, hi8]) hsrc h1c (by omega) (by rw [hi8]; omega)
  rw [hi8, hcur, hC, <- hc1] at h
  exact h
 have hg1 : (w.drew.setRow g c1.toArray).heap[g]? = some (.cells c1.toArray 27 (0, 0)) := by
  have hgg : w.drew.heap[g]? = some (.cells cur 27 (0, 0)) := hg
  simp [World.setRow, Array.getElem?_modify, hgg]
 obtain ⟨zs, hzl, hze⟩ : ∃ zs : List Value, zs.length = (j - i) * 8 /\ zs = (Builtin.zeroCells z.cells (n - (i + (n - j)))).toList := ⟨_, by rw [Array.length_toList, size_zeroCells, hzs8]; congr 1; omega, rfl⟩
 have hz1 : ∀ v ∈ z.cells.toList, v.oneCell' = true := by
  have h : (Tryz.prog.info? 27).bind (·.zero) = some z := by rw [hi0]; exact hz0
  have O : ((Tryz.prog.info? 27).bind (·.zero)).all (fun z => z.cells.toList.all (·.oneCell')) = true := by kernel_rfl
  rw [h] at O
  exact fun v hv => List.all_eq_true.1 (by simpa using O) v hv
 have hcl2 : ∀ ty dc, (Builtin.clear_ #[25] ty #[.slice (some ⟨g, (i + (n - j)) * 8, none⟩) (n - (i + (n - j))) dc]).run Tryz.prog (w.drew.setRow g c1.toArray) = .ok (.tuple #[]) (w.drew.setRow g (A ++ C ++ zs ++ R).toArray) := fun ty dc => by
  have h := zd9 (P := Tryz.prog) (w.drew.setRow g c1.toArray) 25 27 ty z 8 g ((i + (n - j)) * 8) (n - (i + (n - j))) dc c1.toArray t25 hzv hzs8 hz1 (by omega) hg1 (by rw [List.size_toArray, hcl]; omega)
  have h2 := zzq (α := Value) (A := A) (M := M) (C := C) (R := R) (i := i * 8) (k := (j - i) * 8) (m := (n - j) * 8) zs hA hM hC hzl
  simp only at h2
  rw [<- hc1] at h2
  rw [show (n - (i + (n - j))) * 8 = (j - i) * 8 by congr 1; omega, <- hze, show c1.toArray.toList = c1 from rfl, Nat.add_mul, h2, zdb] at h
  rw [Nat.add_mul]
  exact h
 have hic : i <= cap := by omega
 have hjc : j <= cap := by omega
 have hne : ¬ ((i : Int) = (j : Int)) := by omega
 have z0e : Tryz.prog.follows .mixedOrders = true := by kernel_rfl
 have hfin : ∃ zs2 : List Value, zs2.length = (j - i) * 8 /\ w.drew.setRow g (A ++ C ++ zs ++ R).toArray = w.drew.setRow g (A ++ C ++ zs2 ++ R).toArray := ⟨zs, hzl, rfl⟩
 clear hc1 hcl hg1 hze hsrc hcur hsl
 go_enter Tryz.func182, Tryz.ntmps182
 go_wp2
 go_region_law_o (refine zez rfl _ _ 25 25 rfl (.slice (some ⟨g, 0, none⟩) i cap) (.slice (some ad) (n - j) (cap - j)) (by simp [Act.eval, Act.put]) (by simp [Act.eval, Act.put, had]) (hap _ _) ?_)
 go_wp2_with (at_builtin; refine z8p _ rfl _ _ rfl _ rfl (hcl2 _ _) ?_)
 all_goals (go_ret; exact ⟨rfl, zs, hzl, by simp only [List.append_assoc]⟩)
theorem zsb {w : World} {v : Value} {n i j : Nat} {xs : List Value} (hij : i < j) (hj : j <= n) (hown : w.ownsRow 0 27 8 v n xs) (hox : z6f xs) :
  Calls Tryz.prog 182 #[v, .int .i64 i, .int .i64 j] w fun e w' => ∃ v', e = .returned v' /\ w'.ownsRow 0 27 8 v' (i + (n - j)) (xs.take (i * 8) ++ xs.drop (j * 8)) /\ w.grownBy w' v.ownBlock /\ blockOf v' = blockOf v := by
 have hxl := hown.1
 rcases hown.2 with ⟨rfl, rfl⟩ | ⟨g, cap, cur, rfl, _, hg, hnc, hcm, hcs, htake⟩
 ·omega
 ·have hA : (xs.take (i * 8)).length = i * 8 := by rw [List.length_take, hxl]; omega
  have hM : ((xs.drop (i * 8)).take ((j - i) * 8)).length = (j - i) * 8 := by rw [List.length_take, List.length_drop, hxl]; omega
  have hC : (xs.drop (j * 8)).length = (n - j) * 8 := by rw [List.length_drop, hxl]; omega
  have hcl : cur.toList.length = cap * 8 := by rw [Array.length_toList]; exact hcs
  have hcur : cur.toList = xs.take (i * 8) ++ (xs.drop (i * 8)).take ((j - i) * 8) ++ xs.drop (j * 8) ++ cur.toList.drop (n * 8) := by
   have h1 : (xs.drop (i * 8)).take ((j - i) * 8) ++ xs.drop (j * 8) = xs.drop (i * 8) := by
    have h2 : xs.drop (j * 8) = (xs.drop (i * 8)).drop ((j - i) * 8) := by rw [List.drop_drop]; congr 1; omega
    rw [h2, List.take_append_drop]
   rw [List.append_assoc (xs.take (i * 8)), h1, List.take_append_drop, <- htake, List.take_append_drop]
  refine (del_row (w := w) (g := g) (n := n) (cap := cap) hij hj hnc (by simp only [maxLen] at hcm; omega) hg hcur hA hM hC (fun u hu => hox u (List.mem_of_mem_drop hu))).mono ?_
  rintro e w2 ⟨rfl, zs, hzl, rfl⟩
  refine ⟨_, rfl, ⟨?_, .inr ⟨g, cap, (xs.take (i * 8) ++ xs.drop (j * 8) ++ zs ++ cur.toList.drop (n * 8)).toArray, rfl, Nat.zero_le _, ?_, by omega, hcm, ?_, ?_⟩⟩, ⟨rfl, rfl, rfl, by simp [World.setRow], fun k O hne => ?_⟩, rfl⟩
  ·rw [List.length_append, hA, hC]; omega
  ·have hgg : w.drew.heap[g]? = some (.cells cur 27 (0, 0)) := hg
   simp [World.setRow, Array.getElem?_modify, hgg]
  ·rw [List.size_toArray, List.length_append, List.length_append, List.length_append, hA, hC, hzl, List.length_drop, hcl]; omega
  ·have hl : (xs.take (i * 8) ++ xs.drop (j * 8)).length = (i + (n - j)) * 8 := by rw [List.length_append, hA, hC]; omega
   show List.take _ (xs.take (i * 8) ++ xs.drop (j * 8) ++ zs ++ cur.toList.drop (n * 8)) = _
   rw [List.append_assoc (xs.take (i * 8) ++ xs.drop (j * 8))]
   exact List.take_left' hl
  ·simp only [World.setRow, Array.getElem?_modify]
   rw [if_neg (fun h => hne (by rw [Value.ownBlock, h]))]
   rfl
end
section
open Abs Facts Go.Lib Go.RowKit
theorem zvj {P : Program} {s : RS} {w : World} (h : RH P s w) {nn : Bool} {sz : Nat} {els : List D} {v : Value} {a : Addr} {m c : Nat} (hr : rel s (.rsl nn sz els) v) (hv : v = .slice (some a) m c) (hpos : 0 < els.length) (hsz : 0 < sz) : ¬ owned s a.block := by
 simp only [rel] at hr
 rcases hr with ⟨_, rfl, _⟩ | ⟨a', cap, vs, rfl, _, _, hra, hlies⟩
 ·simp at hpos
 ·cases hv
  have hl := z0f hra
  have h0 : vs[0]? = some vs[0] := List.getElem?_eq_getElem (by omega)
  obtain ⟨h1, h2⟩ := hlies 0 _ h0
  have h7 : 0 < (vs[0]).cells.toList.length := by rw [Array.length_toList]; omega
  have h3 := List.getElem?_eq_getElem h7
  have h4 := h2 0 _ h3
  have h5 := (h.mem _ _ h4).2
  have h6 : ((a.add (0 * sz)).add 0).block = a.block := by
   have hb : ∀ (x : Addr) (k : Nat), (x.add k).block = x.block := fun x k => by unfold Addr.add; split <;> rfl
   rw [hb, hb]
  rw [h6] at h5
  exact h5
set_option maxHeartbeats 2000000 in
theorem zvk {H : HM} {nx id n i : Nat} {nn : Bool} {cs us els : List D} (hid : H id = some (.row 27 n cs)) (hi : i <= n) (hm : 0 < els.length) (hus : z1v 8 els = some us) (hb : n + els.length <= 1000000000) :
  AC Tryz.prog 180 [.osl id n, .int .i64 i, .rsl nn 8 els] H nx fun r H' nx' => r = .osl id (n + els.length) /\ H' = z13 H id (some (.row 27 (n + els.length) (cs.take (i * 8) ++ us ++ cs.drop (i * 8)))) /\ nx' = nx := by
 refine ⟨⟨_, Tryz.func180, by kernel_rfl, by kernel_rfl⟩, fun s w vs h1 h2 h h4 => ?_⟩
 subst h1; subst h2
 simp only [relAll] at h4
 obtain ⟨v, r1, rfl, hv, v2, r2, rfl, hv2, v3, r3, rfl, hv3, rfl⟩ := h4
 simp only [rel] at hv hv2
 subst hv2
 obtain ⟨hidn, _, hlive⟩ := hv
 have hv := (hlive _ _ _ hid).2 rfl
 subst hv
 obtain ⟨xs, ho, hrv, hov, _, _⟩ := z4k h hid
 rw [z2s] at ho
 have hsrc := z7r h (e := 27) (n := 8) (m := els.length) (news := us) (by omega) (y := .rsl nn 8 els) z2s (by simp only [zai, if_true, hus, Option.map_some]) hv3
 rcases hsrc with ⟨_, h0, _⟩ | ⟨a, c, ws, rfl, hrw, how, hwl, hwc⟩
 ·omega
 ·have hap := zvj h hv3 rfl hm (by omega)
  have hbt : z0t Tryz.prog 27 <= 1000 := by
   have : decide (z0t Tryz.prog 27 <= 1000) = true := by kernel_rfl
   exact of_decide_eq_true this
  have hne : (s.κ id).ownBlock ≠ some a.block := by
   rw [z7s ho]
   exact fun h5 => hap ⟨id, hidn, by rw [hid]; simp, h5⟩
  refine (zte (w := w) (v := s.κ id) (n := n) (i := i) (m := els.length) (vc := c) (va := a) (xs := xs) (vs := ws) hi hm ho hov
   (by have := Nat.mul_le_mul hb hbt; omega) (by unfold maxLen; omega) hne hwl hwc how).mono ?_
  rintro e w' ⟨v', rfl, hown, hg, hbl⟩
  obtain ⟨g1, g2⟩ := z89 (w' := w') h id (.row 27 n cs) (.row 27 (n + els.length) (cs.take (i * 8) ++ us ++ cs.drop (i * 8))) v' hid hg.os hg.tape hg.output hg.size
   (fun k O hne => hg.block k O (by rw [z7s ho]; exact hne))
   (.inr ⟨n + els.length, _, rfl, Nat.le_add_right _ _, fun hnm => by omega⟩)
   (fun b hb => hbl b hb)
   (fun hl => ⟨xs.take (i * 8) ++ ws ++ xs.drop (i * 8), by rw [z2s]; exact hown, relAll.later hl _ _ (z1l (z1l (z4q _ hrv) hrw) (z7b _ hrv)), z3u (z3u (zaj hov _) how) (zdf hov _)⟩)
  refine ⟨v', .osl id (n + els.length), s.set id v' (.row 27 (n + els.length) (cs.take (i * 8) ++ us ++ cs.drop (i * 8))), rfl, ⟨rfl, rfl, rfl⟩, g1, g2, ?_⟩
  simp only [rel]
  obtain ⟨a2, c2, hvs⟩ := za1 hown
  refine ⟨hidn, ⟨a2, c2, hvs⟩, fun e2 k2 cs2 hH => ?_⟩
  simp only [RS.set, z13, if_true, Option.some.injEq, HObj.row.injEq] at hH
  obtain ⟨_, rfl, _⟩ := hH
  exact ⟨Nat.le_refl _, fun _ => by simp [RS.set]⟩
def mvS (s : RS) (id : Nat) (v : Value) (o : HObj) : RS := { s with κ := fun j => if j = s.nx then v else s.κ j, H := z13 (z13 s.H id none) s.nx (some o), nx := s.nx + 1 }
theorem z00a {P : Program} {s : RS} {w w' : World} (h : RH P s w) (id : Nat) {e : TypeId} {n : Nat} {cs : List D} (o' : HObj) (v : Value) (hid : s.H id = some (.row e n cs))
  (hos : w'.os = w.os) (ht : w'.tape = w.tape) (hout : w'.output = w.output) (hsz : w.heap.size <= w'.heap.size)
  (hold : ∀ k, k < w.heap.size -> some k ≠ blockOf (s.κ id) -> w'.heap[k]? = w.heap[k]?)
  (hb : ∀ b, blockOf v = some b -> blockOf (s.κ id) = some b \/ w.heap.size <= b) (hok : Later s (mvS s id v o') -> objOK P (mvS s id v o') w' v o') :
  Step s w (mvS s id v o') w' /\ RH P (mvS s id v o') w' := by
 have hidn := (h.obj id _ hid).1
 have hHo : ∀ j, j ≠ s.nx -> j ≠ id -> (mvS s id v o').H j = s.H j /\ (mvS s id v o').κ j = s.κ j := fun j h1 h2 => by
  simp only [mvS, z13, if_neg h1, if_neg h2, and_self]
 have hHn : (mvS s id v o').H s.nx = some o' /\ (mvS s id v o').κ s.nx = v := by simp only [mvS, z13, if_true, and_self]
 have hHi : (mvS s id v o').H id = none := by simp only [mvS, z13, if_neg (show ¬ id = s.nx by omega), if_true]
 have hl : Later s (mvS s id v o') := by
  refine ⟨Nat.le_succ _, fun a u hm => hm, fun j hj => ?_⟩
  by_cases hji : j = id
  ·subst hji; rw [hHi, hid]; exact .inl rfl
  ·obtain ⟨h1, h2⟩ := hHo j (by omega) hji
   rw [h1, h2]; exact objLe.refl _ _
 have hok := hok hl
 have hown : ∀ k, owned (mvS s id v o') k -> owned s k \/ w.heap.size <= k := by
  rintro k ⟨j, hj, hH, O⟩
  by_cases hjn : j = s.nx
  ·subst hjn
   rw [hHn.2] at O
   rcases hb k O with h1 | h1
   ·exact .inl ⟨id, hidn, by rw [hid]; simp, h1⟩
   ·exact .inr h1
  ·by_cases hji : j = id
   ·subst hji; exact absurd hHi hH
   ·obtain ⟨h1, h2⟩ := hHo j hjn hji
    rw [h1] at hH; rw [h2] at O
    exact .inl ⟨j, h.fresh hH, hH, O⟩
 refine ⟨⟨hos, ht, hout, hsz, hl.nx, hl.mem, fun a u hm => .inl hm, hl.objs, fun k O ho => hold k O (fun e => ho ⟨id, hidn, by rw [hid]; simp, e.symm⟩), hown⟩, ?_, ?_, ?_, fun g => rel.later hl _ _ (h.glob g)⟩
 ·intro a u hm
  have hlt := h.mem_lt hm
  obtain ⟨h1, h2⟩ := h.mem a u hm
  have hne : some a.block ≠ blockOf (s.κ id) := fun e => h2 ⟨id, hidn, by rw [hid]; simp, e.symm⟩
  refine ⟨by rw [z4v (hold _ hlt hne)]; exact h1, fun ho => ?_⟩
  rcases hown _ ho with h3 | h3
  ·exact h2 h3
  ·omega
 ·intro j oj ho'
  by_cases hjn : j = s.nx
  ·subst hjn
   rw [hHn.1] at ho'
   cases ho'
   rw [hHn.2]
   exact ⟨Nat.lt_succ_self _, hok⟩
  ·by_cases hji : j = id
   ·subst hji; rw [hHi] at ho'; cases ho'
   ·obtain ⟨g1, g2⟩ := hHo j hjn hji
    rw [g1] at ho'
    rw [g2]
    obtain ⟨h1, h2⟩ := h.obj j oj ho'
    refine ⟨Nat.lt_succ_of_lt h1, h2.mono hl fun b hb' => hold b (h2.lt hb') fun e => ?_⟩
    exact h.apart j id (by rw [ho']; simp) (by rw [hid]; simp) hji (by rw [hb']; simp) (by rw [hb', e])
 ·have key : ∀ j, j ≠ s.nx -> j ≠ id -> s.H j ≠ none -> blockOf v ≠ none -> blockOf v ≠ blockOf (s.κ j) := fun j h1 h2 h3 h4 e => by
   cases hbv : blockOf v with
   | none => exact h4 hbv
   | some b =>
    cases hs : s.H j with
    | none => exact h3 hs
    | some oj =>
     have hlt := (h.obj j oj hs).2.lt (b := b) (by rw [<- e, hbv])
     rcases hb b hbv with h5 | h5
     ·exact h.apart j id h3 (by rw [hid]; simp) h2 (by rw [<- e, hbv]; simp) (by rw [<- e, hbv, h5])
     ·omega
  intro i j hi hj hij hbi
  have hi2 : i ≠ id := fun e => hi (by rw [e]; exact hHi)
  have hj2 : j ≠ id := fun e => hj (by rw [e]; exact hHi)
  by_cases h1 : i = s.nx
  ·subst h1
   have hjn : j ≠ s.nx := fun e => hij e.symm
   rw [hHn.2] at hbi ⊢
   rw [(hHo j hjn hj2).1] at hj
   rw [(hHo j hjn hj2).2]
   exact key j hjn hj2 hj hbi
  ·rw [(hHo i h1 hi2).1] at hi
   rw [(hHo i h1 hi2).2] at hbi ⊢
   by_cases h2 : j = s.nx
   ·subst h2
    rw [hHn.2]
    exact fun e => key i h1 hi2 hi (by rw [<- e]; exact hbi) e.symm
   ·rw [(hHo j h2 hj2).1] at hj
    rw [(hHo j h2 hj2).2]
    exact h.apart i j hi hj hij hbi
set_option maxHeartbeats 2000000 in
theorem zvl {H : HM} {nx id n i j : Nat} {cs : List D} (hid : H id = some (.row 27 n cs)) (hij : i < j) (hj : j <= n) :
  AC Tryz.prog 182 [.osl id n, .int .i64 i, .int .i64 j] H nx fun r H' nx' => r = .osl nx (i + (n - j)) /\ H' = z13 (z13 H id none) nx (some (.row 27 (i + (n - j)) (cs.take (i * 8) ++ cs.drop (j * 8)))) /\ nx' = nx + 1 := by
 refine ⟨⟨_, Tryz.func182, by kernel_rfl, by kernel_rfl⟩, fun s w vs h1 h2 h h4 => ?_⟩
 subst h1; subst h2
 simp only [relAll] at h4
 obtain ⟨v, r1, rfl, hv, v2, r2, rfl, hv2, v3, r3, rfl, hv3, rfl⟩ := h4
 simp only [rel] at hv hv2 hv3
 subst hv2; subst hv3
 obtain ⟨hidn, _, hlive⟩ := hv
 have hv := (hlive _ _ _ hid).2 rfl
 subst hv
 obtain ⟨xs, ho, hrv, hov, _, _⟩ := z4k h hid
 rw [z2s] at ho
 refine (zsb (w := w) (v := s.κ id) (n := n) (i := i) (j := j) (xs := xs) hij hj ho hov).mono ?_
 rintro e w' ⟨v', rfl, hown, hg, hbl⟩
 obtain ⟨g1, g2⟩ := z00a (w' := w') h id (.row 27 (i + (n - j)) (cs.take (i * 8) ++ cs.drop (j * 8))) v' hid hg.os hg.tape hg.output hg.size
  (fun k O hne => hg.block k O (by rw [z7s ho]; exact hne))
  (fun b hb => .inl (by rw [<- hbl]; exact hb))
  (fun hl => ⟨xs.take (i * 8) ++ xs.drop (j * 8), by rw [z2s]; exact hown, relAll.later hl _ _ (z1l (z4q _ hrv) (z7b _ hrv)), z3u (zaj hov _) (zdf hov _)⟩)
 refine ⟨v', .osl s.nx (i + (n - j)), mvS s id v' (.row 27 (i + (n - j)) (cs.take (i * 8) ++ cs.drop (j * 8))), rfl, ⟨rfl, rfl, rfl⟩, g1, g2, ?_⟩
 simp only [rel]
 obtain ⟨a2, c2, hvs⟩ := za1 hown
 refine ⟨Nat.lt_succ_self _, ⟨a2, c2, hvs⟩, fun e2 k2 cs2 hH => ?_⟩
 simp only [mvS, z13, if_true, Option.some.injEq, HObj.row.injEq] at hH
 obtain ⟨_, rfl, _⟩ := hH
 exact ⟨Nat.le_refl _, fun _ => by simp [mvS]⟩
end
section
open Abs Facts Tr
attribute [local irreducible] awp
theorem zwy (l : List T) (hl : l.length <= 1000000) (H : HM) (nx : Nat) : AC Tryz.prog 62 [z0r l] H nx fun r H' nx' => r = .osl nx l.length /\ H' = z13 H nx (some (zhs l)) /\ nx' = nx + 1 := by
 refine AC.split (pre := []) (post := []) (sz := 8) (els := l.map z0h) (fun he => ?_) ?_
 ·have hl0 : l = [] := by simpa using he
  subst hl0
  have hp : PC Tryz.prog 62 [.nil] .nil := by
   refine z14 2 rfl rfl (z10 [] Tryz.func62 rfl (by decide +kernel) z0e (by decide +kernel) (by simp [Tryz.ntmps62]) ?_)
   show awp _ _ (Code.seq _ _) _ _
   repeat' (first | refine nxt ?_ | ((refine zqh fun K J => ?_); (simp (disch := omega) only [go_sem, Nat.reduceBEq, ↓reduceIte])) | ((refine zqd _ rfl (fun hc => ?_) (fun hc => ?_)) <;> (first | (cases hc; done) | ((try simp only [] at hc); (try (exfalso; omega))))) | refine zqu (by (simp (disch := omega) only [go_sem]); rfl) rfl ?_ | (refine J _ ?_; clear J K))
   exact z07 rfl (Le.refl _)
  exact zne 27 (hp.ac ⟨rfl, rfl, rfl, rfl⟩)
 ·have ho : OC Tryz.prog 62 [.rsl true 8 (l.map z0h)] [zhs l] (.osl 0 l.length) := by
   refine zaw (by simp only [pureD.pureL, pureD, z0s (f := z0h) z01 l, Bool.and_self]) rfl (fun o ho => by simp at ho; subst ho; exact z1y z04 _) (z10 [5] Tryz.func62 rfl (by decide +kernel) z0e (by decide +kernel) (by simp [Tryz.ntmps62]) ?_)
   show awp _ _ (Code.seq _ _) _ _
   repeat' (first | refine nxt ?_ | ((refine zqh fun K J => ?_); (simp (disch := omega) only [go_sem, Nat.reduceBEq, ↓reduceIte, reduceCtorEq, Nat.reduceAdd, Nat.reduceMul, z2q])) | ((refine zqd _ rfl (fun hc => ?_) (fun hc => ?_)) <;> (first | (cases hc; done) | ((try simp only [] at hc); (try (exfalso; omega))))) | refine zqu (by (simp (disch := omega) only [go_sem]); rfl) rfl ?_ | (refine J _ ?_; clear J K))
   refine ⟨fun _ => 0, fun i j hi hj _ => by simp at hi hj; omega, ?_, fun j hj => ?_⟩
   ·(simp (disch := omega) only [go_sem, Nat.reduceBEq, renD])
   ·obtain rfl : j = 0 := by simp at hj; omega
    (simp (disch := omega) only [go_sem, zhs])
    try rfl
  exact ho.ac ⟨by simp [renD], rfl, rfl⟩
theorem z8l (l : List T) (hl : l.length <= 1000000) : OC Tryz.prog 62 [z0r l] [zhs l] (.osl 0 l.length) :=
 ⟨by simp only [pureD.pureL, z3k, Bool.and_self], rfl, fun o ho => by simp at ho; subst ho; exact z1y z04 _, fun H nx => (zwy l hl H nx).mono fun r H' nx' ⟨h1, h2, h3⟩ => ⟨by rw [h1]; rfl, h2, h3⟩⟩
theorem zmi (l : List T) {i : Nat} (h : i < l.length) : ((l.flatMap z0b).drop (i * 8)).take 8 = z0b l[i] := zhl z0d h
theorem zin (l : List T) {i : Nat} (h : i < l.length) : z1f (l.flatMap z0b) (i * 8) (z0b l[i]) = l.flatMap z0b := by
 rw [z68 z0d h, List.set_getElem_self]
theorem zgr (l : List T) : (l.flatMap z0b).length = l.length * 8 := z4d z0d l
theorem ze5 : ∀ t : T, szB t = true -> PC Tryz.prog 132 [z0h t] (z0h t) := by
 refine z4x fun t ih hs => ?_
 obtain ⟨h0, h1, g1, h2, g2, h3, h4⟩ := (z2f t).1 hs
 have c1 := z8k t.head h1
 have c2 := z8k t.words h2
 have c3 := z8l t.kids h3
 refine z14 4 (by simp only [pureD.pureL, z01, Bool.and_self]) (z01 _) (z10 [8000000, 3000006, 4000007, 3000009, 4000010, 3000012, 4000013, 3000026, 3000028, 5000029] Tryz.func132 rfl (by decide +kernel) z0e (by decide +kernel) (by simp [Tryz.ntmps132]) ?_)
 show awp _ _ (Code.seq _ _) _ _
 rw [show Tryz.f132.results.toList = [.cell 2 27] from rfl]
 rw [z0h, z0l]
 repeat' (first | refine nxt ?_ | ((first | refine zqh fun K J => ?_ | refine zqe (by decide +kernel) fun K J => ?_ | refine z7p (c1) rfl rfl rfl ?_ | refine z7p (c2) rfl rfl rfl ?_ | refine z7p (c3) rfl rfl rfl ?_); (simp (disch := omega) only [go_sem, Nat.reduceBEq, Nat.reduceEqDiff, ↓reduceIte, reduceCtorEq, Nat.reduceAdd, Nat.reduceLeDiff, Nat.reduceLT, zmh, zhs, List.set_cons_succ, List.set_cons_zero])) | (refine J _ ?_; clear J K))
 (refine z3m (fun U st => ∃ (i : _), U = t.kids.length - i /\ st.t 1 = .ptr 0 0 /\ st.t 2 = .ptr 1 0 /\ st.t 18 = .osl 4 t.kids.length /\ st.t 19 = .int .i64 t.kids.length /\ st.t 20 = .int .i64 i /\ st.H 0 = some (.box 27 (z7x t 2 3 4)) /\ st.H 1 = some (.box 27 z62) /\ st.H 2 = some (.row 50 t.head.length (t.head.flatMap z11)) /\ st.H 3 = some (.row 50 t.words.length (t.words.flatMap z11)) /\ st.H 4 = some (.row 27 t.kids.length (t.kids.flatMap z0b)) /\ (i <= t.kids.length) /\ (5 <= st.nx)) ?_ ?_); rotate_left; (rintro U st ⟨i, rfl, q1, q2, q18, q19, q20, qH0, qH1, qH2, qH3, qH4, qp0, qp1⟩); rotate_left
 ·(refine ⟨_, 0, rfl, ?_⟩); (simp (disch := omega) only [go_sem, Nat.reduceBEq, Nat.reduceLeDiff, and_self, Int.natCast_zero, z7x, z62])
 by_cases hi : i < t.kids.length
 ·have hin := ih t.kids[i] (List.getElem_mem hi) (h4 _ (List.getElem_mem hi))
  have hld := zmi t.kids hi
  have hst := zin t.kids hi
  have hln := zgr t.kids
  repeat' (first | ((first | refine zqh fun K J => ?_ | refine zqr fun K J => ?_ | refine zqq (by decide +kernel) fun K J => ?_ | refine zqt (hin) ?_); (simp (disch := omega) only [go_sem, Nat.reduceBEq, Nat.reduceEqDiff, ↓reduceIte, reduceCtorEq, Nat.reduceAdd, Nat.reduceLeDiff, q1, q18, q19, q20, qH0, qH4, hld, hst, hln, z7x])) | ((refine zqd _ rfl (fun hc => ?_) (fun hc => ?_)) <;> (((try simp only [z09] at hc); (try (exfalso; omega))))) | refine nxt ?_ | (refine J _ ?_; clear J K))
  (refine Exists.intro _ (And.intro ?_ ⟨i + 1, rfl, ?_⟩)); rotate_left; (simp (disch := omega) only [go_sem, Nat.reduceBEq, Nat.reduceLeDiff, q1, q2, q18, q19, q20, qH0, qH1, qH2, qH3, qH4, true_and, Int.natCast_add, Int.natCast_one]); rotate_left
  all_goals omega
 ·repeat' (first | ((refine zqh fun K J => ?_); (simp (disch := omega) only [go_sem, Nat.reduceBEq, ↓reduceIte, Nat.reduceAdd, Nat.reduceLeDiff, q1, q2, q19, q20, qH0, qH1, z7x, z62, List.set_cons_succ, List.set_cons_zero])) | ((refine zqd _ rfl (fun hc => ?_) (fun hc => ?_)) <;> (((try simp only [z09] at hc); (try (exfalso; omega))))) | refine nxt ?_ | refine zqz ?_ | refine zqu (by (simp (disch := omega) only [go_sem, Nat.reduceBEq, ↓reduceIte, Nat.reduceAdd, Nat.reduceLeDiff, q2, qH1, z62]); rfl) rfl ?_ | (refine J _ ?_; clear J K))
  refine z3h (z4z (k := 3) ?_ ?_)
  ·simp [pureD.pureL, pureD]
  refine z00 (z02 2 rfl) (z00 (z02 2 rfl) (z00 (z02 2 rfl) (z00 (z02 2 rfl) (z00 (z02 2 rfl) (z00 ?_ (z00 ?_ (z00 ?_ z0c)))))))
  ·refine z16 (f := z11) (l := t.head) 1 rfl ?_ z5v z83 (fun _ => rfl) (fun _ => rfl)
   (simp (disch := omega) only [go_sem, Nat.reduceBEq, qH2])
  ·refine z16 (f := z11) (l := t.words) 1 rfl ?_ z5v z83 (fun _ => rfl) (fun _ => rfl)
   (simp (disch := omega) only [go_sem, Nat.reduceBEq, qH3])
  ·refine z16 (f := z0b) (l := t.kids) 1 rfl ?_ z0k z2s z0d z04
   (simp (disch := omega) only [go_sem, Nat.reduceBEq, qH4])
namespace Abs
theorem zpv {P : Program} {own : List Nat} {n : FuncId} {args cap : List D} {g : List Oper -> (St -> Prop) -> St -> Prop} {rest : List Oper} {K : St -> Prop} {st : St} {dst : Option Nat} {r : D} {H : HM} {nx : Nat}
  (h : AC P n (args ++ cap) st.H st.nx fun r' H' nx' => r' = r /\ H' = H /\ nx' = nx) (h0 : z0y 5000000 own dst = false) (hm : z0y 4000000 own dst = true) (hs : z9r st H nx) (O : g rest K ((st.withH H nx).put dst r)) (ht : tcM own dst = none := by rfl) : zoi P own (.fn n cap) args g rest K st dst :=
 .inr (.inr ⟨h0, hm, r, H, nx, h, .inl ⟨ht, hs⟩, O⟩)
theorem zvh {P : Program} {own : List Nat} {c : Code} {Q : Exit -> St -> Prop} {st : St} (I : St -> Prop) (h0 : I st) (h : ∀ st, I st -> awp P own c Q st) : awp P own c Q st := h st h0
theorem zpw {P : Program} {st : St} {b j : Nat} {e : TypeId} {cs : List D} {d : D} (hb : st.H b = some (.box e cs)) (V : cs = [d] \/ d = .agg cs) (hp : pureD d = true) (hj : st.t j = .ptr b 0) :
  SealTo P st ((st.withH (z13 st.H b none) st.nx).put (some j) (.rptr d)) := by
 intro N s a w hf
 have hHb : s.H b = some (.box e cs) := by rw [hf.H]; exact hb
 obtain ⟨k, vs, O, _, hr, h1, hc⟩ := zdh hf.heap hHb
 obtain ⟨g1, g2⟩ := zbr hf.heap (id := b) (by rw [hHb]; simp)
 refine ⟨s.shut1 w b, ⟨?_, hf.nx, hf.size, hf.defers, fun i => ?_, g2⟩, g1⟩
 ·show z13 s.H b none = _
  rw [hf.H]; rfl
 ·by_cases hij : i = j
  ·subst hij
   have ht := hf.tmps i
   rw [hj] at ht
   simp only [rel] at ht
   obtain ⟨_, _, h3⟩ := ht
   obtain ⟨k', hk', hv⟩ := h3 _ _ hHb
   rw [O] at hk'
   simp only [Value.pointer.injEq, Option.some.injEq, Addr.mk.injEq, and_true] at hk'
   subst hk'
   show rel _ (updT st.t i (.rptr d) i) _
   rw [show updT st.t i (.rptr d) i = .rptr d from if_pos rfl]
   simp only [rel]
   have hm : ∀ (q : Nat) c, vs[q]? = some c -> (s.shut1 w b).m ⟨k, q, none⟩ = some c := fun q c hq => by
    unfold RS.shut1
    simp only
    rw [if_pos (by rw [O]; rfl)]
    exact hc q c hq
   rcases V with V | V
   ·subst V
    simp only [relAll] at hr
    obtain ⟨v, r, rfl, hrv, rfl⟩ := hr
    refine ⟨_, v, hv, rel.later g1.later _ _ hrv, fun q c hq => ?_⟩
    rw [z2g (h1 v (by simp))] at hq
    rw [z1a, Nat.zero_add]
    exact hm q c (by simpa using hq)
   ·subst V
    refine ⟨_, .agg vs.toArray, hv, ?_, fun q c hq => ?_⟩
    ·simp only [rel]
     exact ⟨vs, rfl, relAll.later g1.later _ _ hr, h1⟩
    ·rw [z1a, Nat.zero_add]
     exact hm q c (by simpa [Value.cells] using hq)
  ·show rel _ (updT st.t j (.rptr d) i) _
   rw [show updT st.t j (.rptr d) i = st.t i from if_neg hij]
   exact rel.later g1.later _ _ (hf.tmps i)
theorem zsk {st : St} {id : Nat} {o o' : HObj} (h0 : st.H id = some o) (hid : id < st.nx) (hb : ∀ e cs, o ≠ .box e cs) (hb' : ∀ e cs, o' ≠ .box e cs) : z9r st (z13 (z13 st.H id none) st.nx (some o')) (st.nx + 1) := by
 have h := zig st (zgk st hb') (id0 := id) (o := o) (by unfold z13; rw [if_neg (by omega)]; exact h0) hb
 have e : z13 (z13 st.H st.nx (some o')) id none = z13 (z13 st.H id none) st.nx (some o') := by
  funext j
  unfold z13
  by_cases h1 : j = id
  ·rw [if_pos h1, if_neg (by omega), if_pos h1]
  ·rw [if_neg h1]
   by_cases h2 : j = st.nx
   ·rw [if_pos h2, if_pos h2]
   ·rw [if_neg h2, if_neg h2, if_neg h1]
 rw [e] at h; exact h
def z1c (t : T) : List D := [.int .i64 t.id.act, .int .i64 t.id.item, .int .i64 t.id.n, .int .i64 t.kind, .str t.label, z0n t.head, z0n t.words, z0r t.kids]
end Abs
theorem z5m {P : Program} {H : HM} (k : Nat) {t : T} {d : D} (V : z2p P H (k + 1) d = some (z0r t.kids)) (hp : pureD d = false) :
  z2p P H (k + 2) (.agg [.int .i64 t.id.act, .int .i64 t.id.item, .int .i64 t.id.n, .int .i64 t.kind, .str t.label, z0n t.head, z0n t.words, d]) = some (z0h t) := by
 rw [z0h, z0l]
 refine z4z (k + 1) ?_ (z00 (z02 k rfl) (z00 (z02 k rfl) (z00 (z02 k rfl) (z00 (z02 k rfl) (z00 (z02 k rfl) (z00 (z02 k (z0i _)) (z00 (z02 k (z0i _)) (z00 V z0c))))))))
 simp only [pureD.pureL, hp, Bool.and_false, Bool.false_and]
theorem pc_at (id : Idv) (f : T -> T) {g : FuncId} {cap : List D} (hc : pureD.pureL cap = true) : ∀ t : T, szB t = true -> (∀ x ∈ z0m t, x.id = id -> PC Tryz.prog g (z0h x :: cap) (z0h (f x))) ->
  PC Tryz.prog 170 [z0h t, z19 id, .fn g cap] (.tup [z0h (atR id f t).1, .bool (atR id f t).2]) := by
 refine z4x fun t ih hs hg => ?_
 obtain ⟨h0, h1, g1, h2, g2, h3, h4⟩ := (z2f t).1 hs
 have ct := z8l t.kids h3
 refine z14 5 (by simp only [pureD.pureL, z01, pureD, hc, Bool.and_self]; rfl) (by simp only [pureD, pureD.pureL, z01, Bool.and_self]) (z10 [] Tryz.func170 rfl (by decide +kernel) z0e (by decide +kernel) (by simp [Tryz.ntmps170]) ?_)
 show awp _ _ (Code.seq _ _) _ _
 rw [show Tryz.f170.results.toList = [.cell 6 27, .tmp 7] from rfl]
 rw [show z0h t = .agg _ from by rw [z0h, z0l]]
 by_cases hid : t.id = id
 ·have hgt := hg t (z20 t) hid
  rw [show z0h t = .agg _ from by rw [z0h, z0l]] at hgt
  rw [zr8 hid]
  have hidd : decide (t.id = id) = true := decide_eq_true hid
  repeat' (first | refine nxt ?_ | ((first | refine zqh fun K J => ?_ | refine zqs (hgt) ?_); (simp (disch := omega) only [go_sem, Nat.reduceBEq, ↓reduceIte, reduceCtorEq, Nat.reduceAdd, Nat.reduceLeDiff, hidd])) | ((refine zqd _ rfl (fun hc => ?_) (fun hc => ?_)) <;> (first | (cases hc; done) | ((try simp only [] at hc); (try (exfalso; omega))))) | refine zqu (by (simp (disch := omega) only [go_sem, Nat.reduceBEq, ↓reduceIte, Nat.reduceLeDiff]); rfl) rfl ?_ | (refine J _ ?_; clear J K))
  exact z07 (by simp only [pureD, pureD.pureL, z04, Bool.and_self]) (Le.refl _)
 ·have hidd : decide (t.id = id) = false := decide_eq_false hid
  repeat' (first | refine nxt ?_ | ((refine zqh fun K J => ?_); (simp (disch := omega) only [go_sem, Nat.reduceBEq, ↓reduceIte, reduceCtorEq, Nat.reduceAdd, Nat.reduceLeDiff, hidd])) | ((refine zqd _ rfl (fun hc => ?_) (fun hc => ?_)) <;> (first | (cases hc; done) | ((try simp only [] at hc); (try (exfalso; omega))))) | (refine J _ ?_; clear J K))
  (refine z3m (fun U st => ∃ (i : _), U = t.kids.length - i /\ st.t 2 = .fn g cap /\ st.t 3 = .ptr 0 0 /\ st.t 4 = .ptr 1 0 /\ st.t 6 = .ptr 2 0 /\ st.t 20 = z0r t.kids /\ st.t 21 = .int .i64 t.kids.length /\ st.t 22 = .int .i64 i /\ st.H 0 = some (.box 27 (z1c t)) /\ st.H 1 = some (.box 23 (z0a id)) /\ st.H 2 = some (.box 27 [.int .i64 0, .int .i64 0, .int .i64 0, .int .i64 0, .str ByteArray.empty, .nil, .nil, .nil]) /\ (i <= t.kids.length) /\ (3 <= st.nx) /\ (∀ j, (hj : j < i) -> (h : j < t.kids.length) -> (atR id f t.kids[j]).2 = false)) ?_ ?_); rotate_left; (rintro U st ⟨i, rfl, q2, q3, q4, q6, q20, q21, q22, qH0, qH1, qH2, qp0, qp1, qp2⟩); rotate_left
  ·(refine ⟨_, 0, rfl, ?_⟩); (simp (disch := omega) only [go_sem, Nat.reduceBEq, Nat.reduceLeDiff, true_and, Int.natCast_zero, z1c, z0a, z0r])
   intro j hj; omega
  by_cases hi : i < t.kids.length
  ·have hin := ih t.kids[i] (List.getElem_mem hi) (h4 _ (List.getElem_mem hi)) (fun x hx => hg x (z2n (List.getElem_mem hi) hx))
   have hst : z1f (t.kids.flatMap z0b) (i * 8) (z0b (atR id f t.kids[i]).1) = (t.kids.set i (atR id f t.kids[i]).1).flatMap z0b := z68 z0d hi
   have hln := zgr t.kids
   by_cases hf : (atR id f t.kids[i]).2 = true
   ·rw [hf] at hin
    repeat' (first | ((first | refine zqh fun K J => ?_ | refine zqs (hin) ?_ | refine z7o (ct) ?_); (simp (disch := omega) only [go_sem, Nat.reduceBEq, Nat.reduceBeqDiff, ↓reduceIte, reduceCtorEq, Nat.reduceAdd, Nat.reduceLeDiff, Nat.reduceLT, q2, q3, q4, q6, q20, q21, q22, qH0, qH1, qH2, z1c, z0r, z0a, zhs, hst, hln, List.set_cons_succ, List.set_cons_zero])) | ((first | refine zqd _ rfl (fun hc => ?_) (fun hc => ?_) | refine zqm _ rfl (fun hc => ?_) (fun hc => ?_)) <;> (first | (cases hc; done) | ((try simp only [z09] at hc); (try (exfalso; omega))))) | refine nxt ?_ | refine zqu (by (simp (disch := omega) only [go_sem, Nat.reduceBEq, Nat.reduceBeqDiff, ↓reduceIte, Nat.reduceAdd, Nat.reduceLeDiff, q6, qH2]); rfl) rfl ?_ | (refine J _ ?_; clear J K))
    rw [zx8 hid hi qp2 hf]
    refine z3h (zla 4 (by simp only [pureD.pureL, pureD, Bool.and_false, Bool.false_and]) (z00 (z5m 2 (t := t.setKids (t.kids.set i (atR id f t.kids[i]).1)) (z16 (f := z0b) (l := t.kids.set i (atR id f t.kids[i]).1) 1 (by simp) ?_ z0k z2s z0d z04) rfl) (z00 (z02 3 rfl) z0c)))
    (simp (disch := omega) only [go_sem])
   ·rw [Bool.not_eq_true] at hf
    rw [hf] at hin
    repeat' (first | ((first | refine zqh fun K J => ?_ | refine zqr fun K J => ?_ | refine zqs (hin) ?_); (simp (disch := omega) only [go_sem, Nat.reduceBEq, ↓reduceIte, reduceCtorEq, Nat.reduceAdd, Nat.reduceLeDiff, q2, q4, q20, q21, q22, qH1, z0r, z0a])) | ((first | refine zqd _ rfl (fun hc => ?_) (fun hc => ?_) | refine zqm _ rfl (fun hc => ?_) (fun hc => ?_)) <;> (first | (cases hc; done) | ((try simp only [z09] at hc); (try (exfalso; omega))))) | refine nxt ?_ | (refine J _ ?_; clear J K))
    (refine Exists.intro _ (And.intro ?_ ⟨i + 1, rfl, ?_⟩)); rotate_left; (simp (disch := omega) only [go_sem, Nat.reduceBEq, Nat.reduceLeDiff, q2, q3, q4, q6, q20, q21, q22, qH0, qH1, qH2, true_and, Int.natCast_add, Int.natCast_one, z1c, z0r, z0a]); rotate_left
    ·omega
    ·refine ⟨by omega, by omega, fun j hj h => ?_⟩
     by_cases e : j = i
     ·subst e; exact hf
     ·exact qp2 j (by omega) h
  ·repeat' (first | ((refine zqh fun K J => ?_); (simp (disch := omega) only [go_sem, Nat.reduceBEq, ↓reduceIte, Nat.reduceAdd, Nat.reduceLeDiff, q3, q6, q21, q22, qH0, qH2, z1c, z0r])) | ((refine zqd _ rfl (fun hc => ?_) (fun hc => ?_)) <;> (((try simp only [z09] at hc); (try (exfalso; omega))))) | refine nxt ?_ | refine zqz ?_ | refine zqu (by (simp (disch := omega) only [go_sem, Nat.reduceBEq, ↓reduceIte, Nat.reduceAdd, Nat.reduceLeDiff, q6, qH2]); rfl) rfl ?_ | (refine J _ ?_; clear J K))
   rw [zr9 hid fun j h => qp2 j (by omega) h, z0h, z0l]
   exact z07 (by simp only [pureD, pureD.pureL, z0i, ze3, Bool.and_self]) (Le.refl _)
theorem zfw (t : T) (hs : szB t = true) (id : Idv) (f : T -> T) {g : FuncId} {cap : List D} (hc : pureD.pureL cap = true) (hg : ∀ x ∈ z0m t, x.id = id -> PC Tryz.prog g (z0h x :: cap) (z0h (f x))) :
  PC Tryz.prog 120 [z0h t, z19 id, .fn g cap] (z0h (atR id f t).1) := by
 have c1 := ze5 t hs
 have c2 := pc_at id f hc t hs hg
 refine z14 1 (by simp only [pureD.pureL, z01, pureD, hc, Bool.and_self]; rfl) (z01 _) (z10 [3000010, 5000011, 3000012, 5000014] Tryz.func120 rfl (by decide +kernel) z0e (by decide +kernel) (by simp [Tryz.ntmps120]) ?_)
 show awp _ _ (Code.seq _ _) _ _
 rw [show Tryz.f120.results.toList = [.cell 6 27] from rfl]
 repeat' (first | ((first | refine zqh fun K J => ?_ | refine zqe (by decide +kernel) fun K J => ?_ | refine zqt (c1) ?_ | refine zqt (c2) ?_); (simp (disch := omega) only [go_sem, Nat.reduceBEq, Nat.reduceEqDiff, ↓reduceIte, Nat.reduceAdd, Nat.reduceLeDiff])) | refine nxt ?_ | refine zqu (by (simp (disch := omega) only [go_sem, Nat.reduceBEq, ↓reduceIte, Nat.reduceLeDiff]); rfl) rfl ?_ | (refine J _ ?_; clear J K))
 exact z07 (z01 _) (Le.refl _)
theorem z008 (l : List T) (i : Nat) (x : T) : (l.flatMap z0b).take (i * 8) ++ z0b x ++ (l.flatMap z0b).drop (i * 8) = (l.take i ++ x :: l.drop i).flatMap z0b := by
 have h1 : (l.flatMap z0b).take (i * 8) = (l.take i).flatMap z0b := by
  by_cases hi : i <= l.length
  ·have e : l.flatMap z0b = (l.take i).flatMap z0b ++ (l.drop i).flatMap z0b := by rw [<- List.flatMap_append, List.take_append_drop]
   rw [e, List.take_append_of_le_length (by rw [z4d z0d, List.length_take]; omega), List.take_of_length_le (by rw [z4d z0d, List.length_take]; omega)]
  ·rw [List.take_of_length_le (by rw [z4d z0d]; omega), List.take_of_length_le (by omega)]
 rw [h1, zdk z0d, List.flatMap_append, List.flatMap_cons, List.append_assoc]
theorem z009 (l : List T) (i : Nat) : (l.flatMap z0b).take (i * 8) ++ (l.flatMap z0b).drop ((i + 1) * 8) = (l.eraseIdx i).flatMap z0b := by
 have h1 : (l.flatMap z0b).take (i * 8) = (l.take i).flatMap z0b := by
  by_cases hi : i <= l.length
  ·have e : l.flatMap z0b = (l.take i).flatMap z0b ++ (l.drop i).flatMap z0b := by rw [<- List.flatMap_append, List.take_append_drop]
   rw [e, List.take_append_of_le_length (by rw [z4d z0d, List.length_take]; omega), List.take_of_length_le (by rw [z4d z0d, List.length_take]; omega)]
  ·rw [List.take_of_length_le (by rw [z4d z0d]; omega), List.take_of_length_le (by omega)]
 rw [h1, zdk z0d, <- List.flatMap_append, List.eraseIdx_eq_take_drop_succ]
theorem zvi (i : Nat) (x : T) (hx : szB x = true) (q : T) (hq : szB q = true) (hi : i <= q.kids.length) : PC Tryz.prog 179 [z0h q, .rptr (.int .i64 i), .rptr (z0h x)] (z0h (z7j i x q)) := by
 obtain ⟨h0, h1, g1, h2, g2, h3, h4⟩ := (z2f q).1 hq
 have c1 := ze5 x hx
 have ct := z8l q.kids h3
 refine z14 5 (by simp only [pureD.pureL, z01, pureD, Bool.and_self]) (z01 _) (z10 [3000006, 4000007, 3000008, 3000009, 5000010, 4000012] Tryz.func179 rfl (by decide +kernel) z0e (by decide +kernel) (by simp [Tryz.ntmps179]) ?_)
 show awp _ _ (Code.seq _ _) _ _
 rw [show Tryz.f179.results.toList = [.cell 4 27] from rfl]
 rw [show z0h q = .agg _ from by rw [z0h, z0l]]
 repeat' (first | ((first | refine zqh fun K J => ?_ | refine zqe (by decide +kernel) fun K J => ?_ | refine zqt (c1) ?_ | refine z7p (ct) rfl rfl rfl ?_); (simp (disch := omega) only [go_sem, Nat.reduceBEq, Nat.reduceEqDiff, ↓reduceIte, reduceCtorEq, Nat.reduceAdd, Nat.reduceMul, Nat.reduceLeDiff, zhs])) | (refine J _ ?_; clear J K))
 refine zpv (zvk (n := q.kids.length) (i := i) (cs := q.kids.flatMap z0b) (us := z0b x) ?_ hi (by simp) ?_ (by simp; omega)) rfl rfl (zm2 _ (o := .row 27 q.kids.length (q.kids.flatMap z0b)) ?_ (by intro e cs h; cases h) (by intro e cs h; cases h)) ?_
 ·(simp (disch := omega) only [go_sem, Nat.reduceBEq])
 ·simp only [z1v, z4u, z0d, if_true, List.append_nil]
 ·(simp (disch := omega) only [go_sem, Nat.reduceBEq])
 rw [z008]
 (try (simp (disch := omega) only [go_sem, Nat.reduceBEq, Nat.reduceEqDiff, ↓reduceIte, reduceCtorEq, Nat.reduceAdd, Nat.reduceLeDiff, Nat.reduceLT, List.set_cons_succ, List.set_cons_zero])); repeat' (first | ((refine zqh fun K J => ?_); (simp (disch := omega) only [go_sem, Nat.reduceBEq, ↓reduceIte, Nat.reduceAdd, Nat.reduceLeDiff, List.set_cons_succ, List.set_cons_zero])) | refine nxt ?_ | refine zqu (by (simp (disch := omega) only [go_sem, Nat.reduceBEq, ↓reduceIte, Nat.reduceAdd, Nat.reduceLeDiff]); rfl) rfl ?_ | (refine J _ ?_; clear J K))
 refine z3h (z5m 3 (t := z7j i x q) (z16 (f := z0b) (l := q.kids.take i ++ x :: q.kids.drop i) 2 ?_ ?_ z0k z2s z0d z04) rfl)
 ·simp; omega
 ·(simp (disch := omega) only [go_sem, Nat.reduceBEq])
theorem znt (i : Nat) (q : T) (hq : szB q = true) (hi : i < q.kids.length) : PC Tryz.prog 181 [z0h q, .rptr (.int .i64 i)] (z0h (delK i q)) := by
 obtain ⟨h0, h1, g1, h2, g2, h3, h4⟩ := (z2f q).1 hq
 have ct := z8l q.kids h3
 have cd := fun (H : HM) (nx : Nat) (hid : H 2 = some (.row 27 q.kids.length (q.kids.flatMap z0b))) => zvl (nx := nx) (i := i) (j := i + 1) hid (by omega) (by omega)
 rw [z009] at cd
 simp only [Int.natCast_add, Int.natCast_one] at cd
 refine z14 5 (by simp only [pureD.pureL, z01, pureD, Bool.and_self]) (z01 _) (z10 [3000005, 4000006, 3000007, 3000008, 4000010] Tryz.func181 rfl (by decide +kernel) z0e (by decide +kernel) (by simp [Tryz.ntmps181]) ?_)
 show awp _ _ (Code.seq _ _) _ _
 rw [show Tryz.f181.results.toList = [.cell 3 27] from rfl]
 rw [show z0h q = .agg _ from by rw [z0h, z0l]]
 repeat' (first | ((first | refine zqh fun K J => ?_ | refine zqe (by decide +kernel) fun K J => ?_ | refine z7p (ct) rfl rfl rfl ?_); (simp (disch := omega) only [go_sem, Nat.reduceBEq, Nat.reduceEqDiff, ↓reduceIte, reduceCtorEq, Nat.reduceAdd, zhs])) | (refine J _ ?_; clear J K))
 refine zpv (cd _ _ ?_) rfl rfl (zsk (o := .row 27 q.kids.length (q.kids.flatMap z0b)) ?_ ?_ (by intro e cs h; cases h) (by intro e cs h; cases h)) ?_
 ·(simp (disch := omega) only [go_sem, Nat.reduceBEq])
 ·(simp (disch := omega) only [go_sem, Nat.reduceBEq])
 ·(simp (disch := omega) only [go_sem, Nat.reduceLT])
 (try (simp (disch := omega) only [go_sem, Nat.reduceBEq, Nat.reduceEqDiff, ↓reduceIte, reduceCtorEq, Nat.reduceAdd, Nat.reduceLeDiff, Nat.reduceLT, List.set_cons_succ, List.set_cons_zero])); repeat' (first | ((refine zqh fun K J => ?_); (simp (disch := omega) only [go_sem, Nat.reduceBEq, ↓reduceIte, Nat.reduceAdd, Nat.reduceLeDiff, List.set_cons_succ, List.set_cons_zero])) | refine nxt ?_ | refine zqu (by (simp (disch := omega) only [go_sem, Nat.reduceBEq, ↓reduceIte, Nat.reduceAdd, Nat.reduceLeDiff]); rfl) rfl ?_ | (refine J _ ?_; clear J K))
 refine z3h (z5m 3 (t := delK i q) (z16 (f := z0b) (l := q.kids.eraseIdx i) 2 ?_ ?_ z0k z2s z0d z04) rfl)
 ·rw [List.length_eraseIdx_of_lt hi]; omega
 ·(simp (disch := omega) only [go_sem, Nat.reduceBEq])
theorem pc_put (i : Int) (x : T) : PC Tryz.prog 126 [.int .i64 i, z0h x] (.fn 179 [.rptr (.int .i64 i), .rptr (z0h x)]) := by
 refine z14 4 (by simp only [pureD.pureL, z01, pureD, Bool.and_self]) (by simp only [pureD.pureL, z01, pureD, Bool.and_self]) (z10 [] Tryz.func126 rfl (by decide +kernel) z0e (by decide +kernel) (by simp [Tryz.ntmps126]) ?_)
 show awp _ _ (Code.seq _ _) _ _
 repeat' (first | ((refine zqh fun K J => ?_); (simp (disch := omega) only [go_sem, Nat.reduceBEq, Nat.reduceAdd])) | refine nxt ?_ | refine zqu (by (simp (disch := omega) only [go_sem]); rfl) rfl ?_ | (refine J _ ?_; clear J K))
 refine z3h (zc7 3 rfl (z00 (z1d (e := 3) 2 ?_ z41 (z02 1 rfl)) (z00 (z05 (e := 27) 1 ?_ z0k (z04 x)) z0c)))
 ·(simp (disch := omega) only [go_sem, Nat.reduceBEq])
 ·(simp (disch := omega) only [go_sem, Nat.reduceBEq])
theorem zsl (t : T) (hs : szB t = true) (V : depT t <= 1000000000) (id : Idv) (i : Nat) (hp : (z59 id t).2.1 = i) (hq : ∀ q ∈ z0m t, q.id = (z59 id t).1 -> i < q.kids.length) : PC Tryz.prog 131 [z0h t, z19 id] (z0h (atR (z59 id t).1 (delK i) t).1) := by
 have c1 := zn3 t (z8h t hs) V id
 have c2 := zfw t hs (z59 id t).1 (delK i) (g := 181) (cap := [.rptr (.int .i64 i)]) rfl (fun q hq1 hq2 => znt i q (zaq t hs q hq1) (hq q hq1 hq2))
 rw [hp] at c1
 refine z14 1 (by simp only [pureD.pureL, z01]; rfl) (z01 _) (z10 [] Tryz.func131 rfl (by decide +kernel) z0e (by decide +kernel) (by simp [Tryz.ntmps131]) ?_)
 show awp _ _ (Code.seq _ _) _ _
 rw [show Tryz.f131.results.toList = [.cell 4 27] from rfl]
 repeat' (first | ((refine z1r (N := 1) rfl fun K J => ?_); (simp (disch := omega) only [go_sem, Nat.reduceBEq, Nat.reduceAdd])) | (refine J _ ?_; clear J K))
 refine z1i fun K J => ?_
 (simp (disch := omega) only [go_sem, Nat.reduceBEq, ↓reduceIte, Nat.reduceAdd, Nat.reduceLeDiff])
 refine zqs c1 ?_
 (simp (disch := omega) only [go_sem, Nat.reduceBEq, ↓reduceIte, Nat.reduceAdd, Nat.reduceLeDiff, Nat.reduceLT])
 refine J _ _ (zpw (b := 4) (j := 6) (e := 3) (cs := [.int .i64 i]) (d := .int .i64 i) (by (simp (disch := omega) only [go_sem, Nat.reduceBEq])) (.inl rfl) rfl (by (simp (disch := omega) only [go_sem, Nat.reduceBEq]))) ?_
 clear J K
 repeat' (first | ((first | refine zqh fun K J => ?_ | refine zqs (c2) ?_); (simp (disch := omega) only [go_sem, Nat.reduceBEq, ↓reduceIte, Nat.reduceAdd, Nat.reduceLeDiff])) | refine nxt ?_ | refine zqu (by (simp (disch := omega) only [go_sem, Nat.reduceBEq, ↓reduceIte, Nat.reduceLeDiff]); rfl) rfl ?_ | (refine J _ ?_; clear J K))
 exact z07 (z01 _) (Le.refl _)
def z64 (t : T) : List D := [.int .i64 t.id.act, .int .i64 t.id.item, .int .i64 t.id.n, .int .i64 t.kind, .str t.label, z0n t.head, z0n t.words, z0r t.kids]
theorem ziv (id : Idv) : ∀ t : T, szB t = true -> PC Tryz.prog 149 [z0h t, z19 id] (z0h (z0o id t)) := by
 refine z4x fun t ih hs => ?_
 obtain ⟨h0, h1, g1, h2, g2, h3, h4⟩ := (z2f t).1 hs
 refine z14 4 (by simp only [pureD.pureL, z01]; rfl) (z01 _) (z10 [7, 3000010, 3000016, 3000020, 3000021, 3000025, 3000028, 3000029] Tryz.func149 rfl (by decide +kernel) z0e (by decide +kernel) (by simp [Tryz.ntmps149]) ?_)
 show awp _ _ (Code.seq _ _) _ _
 rw [show Tryz.f149.results.toList = [.cell 4 27] from rfl]
 rw [show z0h t = .agg _ from by rw [z0h, z0l], z55]
 repeat' (first | refine nxt ?_ | ((refine zqh fun K J => ?_); (simp (disch := omega) only [go_sem, Nat.reduceBEq, ↓reduceIte, reduceCtorEq, Nat.reduceAdd, Nat.reduceMul])) | (refine J _ ?_; clear J K))
 (refine z3m (fun U st => ∃ (i : _), U = t.kids.length - i /\ st.t 2 = .ptr 0 0 /\ st.t 3 = .ptr 1 0 /\ st.t 4 = .ptr 2 0 /\ st.t 5 = .osl 3 (((t.kids.take i).filter (z4w id))).length /\ st.t 6 = .int .i64 i /\ st.H 0 = some (.box 27 (z64 t)) /\ st.H 1 = some (.box 23 (z0a id)) /\ st.H 2 = some (.box 27 [.int .i64 0, .int .i64 0, .int .i64 0, .int .i64 0, .str ByteArray.empty, .nil, .nil, .nil]) /\ st.H 3 = some (.row 27 (((t.kids.take i).filter (z4w id))).length ((((t.kids.take i).filter (z4w id)).map (z0o id)).flatMap z0b)) /\ (i <= t.kids.length) /\ (4 <= st.nx)) ?_ ?_); rotate_left; (rintro U st ⟨i, rfl, q2, q3, q4, q5, q6, qH0, qH1, qH2, qH3, qp0, qp1⟩); rotate_left
 ·(refine ⟨_, 0, rfl, ?_⟩); (simp (disch := omega) only [go_sem, Nat.reduceBEq, Nat.reduceLeDiff, true_and, and_true, and_self, Int.natCast_zero, z0a, z64])
  exact ⟨rfl, rfl⟩
 by_cases hi : i < t.kids.length
 ·have hin := ih t.kids[i] (List.getElem_mem hi) (h4 _ (List.getElem_mem hi))
  have htk := List.take_succ_eq_append_getElem hi
  by_cases O : t.kids[i].id = id
  ·have hk2 := zx9 O
   have hkd : decide (t.kids[i].id = id) = true := decide_eq_true O
   repeat' (first | refine nxt ?_ | ((first | refine zqh fun K J => ?_ | refine zqe (by decide +kernel) fun K J => ?_ | refine zqr fun K J => ?_); (simp (disch := omega) only [go_sem, Nat.reduceBEq, Nat.reduceEqDiff, ↓reduceIte, reduceCtorEq, Nat.reduceAdd, Nat.reduceLeDiff, q2, q3, q6, qH0, qH1, z0a, z64, z0r, hkd])) | ((first | refine zqd _ rfl (fun hc => ?_) (fun hc => ?_) | refine zqm _ rfl (fun hc => ?_) (fun hc => ?_)) <;> (first | (cases hc; done) | ((try simp only [z09] at hc); (try (exfalso; omega))))) | (refine J _ ?_; clear J K))
   have e : (t.kids.take (i + 1)).filter (z4w id) = (t.kids.take i).filter (z4w id) := by rw [htk, List.filter_append, List.filter_cons, hk2]; simp
   (refine Exists.intro _ (And.intro ?_ ⟨i + 1, rfl, ?_⟩)); rotate_left; (simp (disch := omega) only [go_sem, Nat.reduceBEq, q2, q3, q4, q5, q6, qH0, qH1, qH2, qH3, true_and, Int.natCast_add, Int.natCast_one, e, z0a, z64]); rotate_left
   ·omega
   ·omega
  ·have hk2 := zgu O
   have hkd : decide (t.kids[i].id = id) = false := decide_eq_false O
   have hfl : ((t.kids.take i).filter (z4w id)).length <= 1000000 := by have := List.length_filter_le (z4w id) (t.kids.take i); rw [List.length_take] at this; omega
   repeat' (first | refine nxt ?_ | ((first | refine zqh fun K J => ?_ | refine zqe (by decide +kernel) fun K J => ?_ | refine zqr fun K J => ?_ | refine zqq (by decide +kernel) fun K J => ?_ | refine zqt (hin) ?_); (simp (disch := omega) only [go_sem, Nat.reduceBEq, Nat.reduceEqDiff, ↓reduceIte, reduceCtorEq, Nat.reduceAdd, Nat.reduceMul, Nat.reduceLeDiff, q2, q3, q5, q6, qH0, qH1, qH3, z0a, z64, z0r, hkd])) | ((first | refine zqd _ rfl (fun hc => ?_) (fun hc => ?_) | refine zqm _ rfl (fun hc => ?_) (fun hc => ?_)) <;> (first | (cases hc; done) | ((try simp only [z09] at hc); (try (exfalso; omega))))) | (refine J _ ?_; clear J K))
   have e : (t.kids.take (i + 1)).filter (z4w id) = (t.kids.take i).filter (z4w id) ++ [t.kids[i]] := by rw [htk, List.filter_append, List.filter_cons, hk2]; simp
   (refine Exists.intro _ (And.intro ?_ ⟨i + 1, rfl, ?_⟩)); rotate_left; (simp (disch := omega) only [go_sem, Nat.reduceBEq, q2, q3, q4, q5, q6, qH0, qH1, qH2, qH3, true_and, Int.natCast_add, Int.natCast_one, List.flatMap_append, List.flatMap_cons, List.flatMap_nil, List.map_append, List.map_cons, List.map_nil, List.append_nil, e, z0a, z64, List.length_append, List.length_cons, List.length_nil]); rotate_left
   ·omega
   ·omega
 ·repeat' (first | refine nxt ?_ | ((refine zqh fun K J => ?_); (simp (disch := omega) only [go_sem, Nat.reduceBEq, ↓reduceIte, reduceCtorEq, Nat.reduceAdd, Nat.reduceLeDiff, Nat.reduceLT, q2, q4, q5, q6, qH0, qH2, z0r, z64, List.set_cons_succ, List.set_cons_zero])) | ((refine zqd _ rfl (fun hc => ?_) (fun hc => ?_)) <;> (((try simp only [z09] at hc); (try (exfalso; omega))))) | refine zqz ?_ | refine zqu (by (simp (disch := omega) only [go_sem, Nat.reduceBEq, ↓reduceIte, Nat.reduceAdd, Nat.reduceLeDiff, q4, qH2]); rfl) rfl ?_ | (refine J _ ?_; clear J K))
  have hi2 : i = t.kids.length := by omega
  subst hi2
  rw [List.take_length] at q5 qH3
  refine z3h (z5m 2 (t := t.setKids ((t.kids.filter (z4w id)).map (z0o id))) (z16 (f := z0b) (l := (t.kids.filter (z4w id)).map (z0o id)) 1 ?_ ?_ z0k z2s z0d z04) rfl)
  ·rw [List.length_map, List.take_length]
  ·(simp (disch := omega) only [go_sem, Nat.reduceBEq, qH3])
theorem zrn (id : Idv) (n : Nat) (x : T) : ∀ t : T, szB t = true -> (∀ q ∈ z0m t, q.id = id -> n <= q.kids.length) -> PC Tryz.prog 148 [z0h t, z19 id, .int .i64 n, z0h x] (z0h (z1g id (z7j n x) t)) := by
 refine z4x fun t ih hs hn => ?_
 obtain ⟨h0, h1, g1, h2, g2, h3, h4⟩ := (z2f t).1 hs
 refine z14 4 (by simp only [pureD.pureL, z01, pureD, Bool.and_self]; rfl) (z01 _) (z10 [22, 3000016, 3000018, 3000025, 3000032, 3000035, 3000036, 3000038] Tryz.func148 rfl (by decide +kernel) z0e (by decide +kernel) (by simp [Tryz.ntmps148]) ?_)
 show awp _ _ (Code.seq _ _) _ _
 rw [show Tryz.f148.results.toList = [.cell 8 27] from rfl]
 rw [show z0h t = .agg _ from by rw [z0h, z0l], z7y]
 by_cases hid : t.id = id
 ·have hidd : decide (t.id = id) = true := decide_eq_true hid
  rw [if_pos hid]
  have c1 := pc_putR t.kids h3 n (hn t (z20 t) hid) x
  repeat' (first | refine nxt ?_ | ((first | refine zqh fun K J => ?_ | refine zqs (c1) ?_); (simp (disch := omega) only [go_sem, Nat.reduceBEq, ↓reduceIte, reduceCtorEq, Nat.reduceAdd, Nat.reduceLeDiff, Nat.reduceLT, hidd, z0r, List.set_cons_succ, List.set_cons_zero])) | ((refine zqd _ rfl (fun hc => ?_) (fun hc => ?_)) <;> (first | (cases hc; done) | ((try simp only [] at hc); (try (exfalso; omega))))) | refine zqu (by (simp (disch := omega) only [go_sem, Nat.reduceBEq, ↓reduceIte, Nat.reduceAdd, Nat.reduceLeDiff]); rfl) rfl ?_ | (refine J _ ?_; clear J K))
  rw [z0h, z0l]
  exact z07 (by simp only [pureD, pureD.pureL, z0i, ze3, Bool.and_self]) (Le.refl _)
 ·have hidd : decide (t.id = id) = false := decide_eq_false hid
  rw [if_neg hid]
  repeat' (first | refine nxt ?_ | ((refine zqh fun K J => ?_); (simp (disch := omega) only [go_sem, Nat.reduceBEq, ↓reduceIte, reduceCtorEq, Nat.reduceAdd, Nat.reduceMul, Nat.reduceLeDiff, hidd])) | ((refine zqd _ rfl (fun hc => ?_) (fun hc => ?_)) <;> (first | (cases hc; done) | ((try simp only [] at hc); (try (exfalso; omega))))) | (refine J _ ?_; clear J K))
  (refine z3m (fun U st => ∃ (i : _), U = t.kids.length - i /\ st.t 4 = .ptr 0 0 /\ st.t 5 = .ptr 1 0 /\ st.t 2 = .int .i64 n /\ st.t 7 = .ptr 2 0 /\ st.t 8 = .ptr 3 0 /\ st.t 9 = .osl 4 i /\ st.t 10 = .int .i64 i /\ st.H 0 = some (.box 27 (z64 t)) /\ st.H 1 = some (.box 23 (z0a id)) /\ st.H 2 = some (.box 27 (z0b x)) /\ st.H 3 = some (.box 27 [.int .i64 0, .int .i64 0, .int .i64 0, .int .i64 0, .str ByteArray.empty, .nil, .nil, .nil]) /\ st.H 4 = some (.row 27 i (((t.kids.take i).map (z1g id (z7j n x))).flatMap z0b)) /\ (i <= t.kids.length) /\ (5 <= st.nx)) ?_ ?_); rotate_left; (rintro U st ⟨i, rfl, q4, q5, q2, q7, q8, q9, q10, qH0, qH1, qH2, qH3, qH4, qp0, qp1⟩); rotate_left
  ·(refine ⟨_, 0, rfl, ?_⟩); (simp (disch := omega) only [go_sem, Nat.reduceBEq, Nat.reduceLeDiff, and_self, Int.natCast_zero, List.flatMap_nil, List.map_nil, z0a, z64])
   try exact ⟨rfl, rfl⟩
  by_cases hi : i < t.kids.length
  ·have hin := ih t.kids[i] (List.getElem_mem hi) (h4 _ (List.getElem_mem hi)) (fun q hq => hn q (z2n (List.getElem_mem hi) hq))
   have htk := List.take_succ_eq_append_getElem hi
   repeat' (first | refine nxt ?_ | ((first | refine zqh fun K J => ?_ | refine zqr fun K J => ?_ | refine zqq (by decide +kernel) fun K J => ?_ | refine zqt (hin) ?_); (simp (disch := omega) only [go_sem, Nat.reduceBEq, Nat.reduceEqDiff, ↓reduceIte, reduceCtorEq, Nat.reduceAdd, Nat.reduceMul, Nat.reduceLeDiff, q4, q5, q2, q7, q9, q10, qH0, qH1, qH2, qH4, z0a, z64, z0r])) | ((refine zqd _ rfl (fun hc => ?_) (fun hc => ?_)) <;> (((try simp only [z09] at hc); (try (exfalso; omega))))) | (refine J _ ?_; clear J K))
   (refine Exists.intro _ (And.intro ?_ ⟨i + 1, rfl, ?_⟩)); rotate_left; (simp (disch := omega) only [go_sem, Nat.reduceBEq, q4, q5, q2, q7, q8, q9, q10, qH0, qH1, qH2, qH3, qH4, true_and, Int.natCast_add, Int.natCast_one, List.flatMap_append, List.flatMap_cons, List.flatMap_nil, List.map_append, List.map_cons, List.map_nil, List.append_nil, htk, z0a, z64]); rotate_left
   ·omega
   ·omega
  ·repeat' (first | refine nxt ?_ | ((refine zqh fun K J => ?_); (simp (disch := omega) only [go_sem, Nat.reduceBEq, ↓reduceIte, reduceCtorEq, Nat.reduceAdd, Nat.reduceLeDiff, Nat.reduceLT, q4, q8, q9, q10, qH0, qH3, z0r, z64, List.set_cons_succ, List.set_cons_zero])) | ((refine zqd _ rfl (fun hc => ?_) (fun hc => ?_)) <;> (((try simp only [z09] at hc); (try (exfalso; omega))))) | refine zqz ?_ | refine zqu (by (simp (disch := omega) only [go_sem, Nat.reduceBEq, ↓reduceIte, Nat.reduceAdd, Nat.reduceLeDiff, q8, qH3]); rfl) rfl ?_ | (refine J _ ?_; clear J K))
   have hi2 : i = t.kids.length := by omega
   subst hi2
   rw [List.take_length] at qH4
   refine z3h (z5m 2 (t := t.setKids (t.kids.map (z1g id (z7j n x)))) (z16 (f := z0b) (l := t.kids.map (z1g id (z7j n x))) 1 ?_ ?_ z0k z2s z0d z04) rfl)
   ·rw [List.length_map]
   ·(simp (disch := omega) only [go_sem, Nat.reduceBEq, qH4])
theorem zoy (x : T) : ∀ t : T, szB t = true -> PC Tryz.prog 142 [z0h t, z0h x] (z0h (z1g x.id (fun q => x.setKids q.kids) t)) := by
 refine z4x fun t ih hs => ?_
 obtain ⟨h0, h1, g1, h2, g2, h3, h4⟩ := (z2f t).1 hs
 refine z14 4 (by simp only [pureD.pureL, z01, Bool.and_self]) (z01 _) (z10 [16, 3000013, 3000019, 3000026, 3000029, 3000030] Tryz.func142 rfl (by decide +kernel) z0e (by decide +kernel) (by simp [Tryz.ntmps142]) ?_)
 show awp _ _ (Code.seq _ _) _ _
 rw [show Tryz.f142.results.toList = [.cell 4 27] from rfl]
 rw [show z0h t = .agg _ from by rw [z0h, z0l], z7y]
 by_cases hid : t.id = x.id
 ·have hidd : decide (t.id = x.id) = true := decide_eq_true hid
  rw [if_pos hid]
  rw [show z0h x = .agg _ from by rw [z0h, z0l]]
  repeat' (first | refine nxt ?_ | ((refine zqh fun K J => ?_); (simp (disch := omega) only [go_sem, Nat.reduceBEq, ↓reduceIte, reduceCtorEq, Nat.reduceAdd, Nat.reduceLeDiff, Nat.reduceLT, hidd, z0r, List.set_cons_succ, List.set_cons_zero])) | ((refine zqd _ rfl (fun hc => ?_) (fun hc => ?_)) <;> (first | (cases hc; done) | ((try simp only [] at hc); (try (exfalso; omega))))) | refine zqu (by (simp (disch := omega) only [go_sem, Nat.reduceBEq, ↓reduceIte, Nat.reduceAdd, Nat.reduceLeDiff]); rfl) rfl ?_ | (refine J _ ?_; clear J K))
  rw [z0h, z0l]
  exact z07 (by simp only [pureD, pureD.pureL, z0i, ze3, Bool.and_self]) (Le.refl _)
 ·have hidd : decide (t.id = x.id) = false := decide_eq_false hid
  rw [if_neg hid]
  repeat' (first | refine nxt ?_ | ((refine zqh fun K J => ?_); (simp (disch := omega) only [go_sem, Nat.reduceBEq, ↓reduceIte, reduceCtorEq, Nat.reduceAdd, Nat.reduceMul, Nat.reduceLeDiff, hidd])) | ((refine zqd _ rfl (fun hc => ?_) (fun hc => ?_)) <;> (first | (cases hc; done) | ((try simp only [] at hc); (try (exfalso; omega))))) | (refine J _ ?_; clear J K))
  (refine z3m (fun U st => ∃ (i : _), U = t.kids.length - i /\ st.t 2 = .ptr 0 0 /\ st.t 3 = .ptr 1 0 /\ st.t 4 = .ptr 2 0 /\ st.t 5 = .osl 3 i /\ st.t 6 = .int .i64 i /\ st.H 0 = some (.box 27 (z64 t)) /\ st.H 1 = some (.box 27 (z0b x)) /\ st.H 2 = some (.box 27 [.int .i64 0, .int .i64 0, .int .i64 0, .int .i64 0, .str ByteArray.empty, .nil, .nil, .nil]) /\ st.H 3 = some (.row 27 i (((t.kids.take i).map (z1g x.id (fun q => x.setKids q.kids))).flatMap z0b)) /\ (i <= t.kids.length) /\ (4 <= st.nx)) ?_ ?_); rotate_left; (rintro U st ⟨i, rfl, q2, q3, q4, q5, q6, qH0, qH1, qH2, qH3, qp0, qp1⟩); rotate_left
  ·(refine ⟨_, 0, rfl, ?_⟩); (simp (disch := omega) only [go_sem, Nat.reduceBEq, Nat.reduceLeDiff, and_self, Int.natCast_zero, List.flatMap_nil, List.map_nil, z64])
   try exact ⟨rfl, rfl⟩
  by_cases hi : i < t.kids.length
  ·have hin := ih t.kids[i] (List.getElem_mem hi) (h4 _ (List.getElem_mem hi))
   have htk := List.take_succ_eq_append_getElem hi
   repeat' (first | refine nxt ?_ | ((first | refine zqh fun K J => ?_ | refine zqr fun K J => ?_ | refine zqq (by decide +kernel) fun K J => ?_ | refine zqt (hin) ?_); (simp (disch := omega) only [go_sem, Nat.reduceBEq, Nat.reduceEqDiff, ↓reduceIte, reduceCtorEq, Nat.reduceAdd, Nat.reduceMul, Nat.reduceLeDiff, q2, q3, q5, q6, qH0, qH1, qH3, z64, z0r])) | ((refine zqd _ rfl (fun hc => ?_) (fun hc => ?_)) <;> (((try simp only [z09] at hc); (try (exfalso; omega))))) | (refine J _ ?_; clear J K))
   (refine Exists.intro _ (And.intro ?_ ⟨i + 1, rfl, ?_⟩)); rotate_left; (simp (disch := omega) only [go_sem, Nat.reduceBEq, q2, q3, q4, q5, q6, qH0, qH1, qH2, qH3, true_and, Int.natCast_add, Int.natCast_one, List.flatMap_append, List.flatMap_cons, List.flatMap_nil, List.map_append, List.map_cons, List.map_nil, List.append_nil, htk, z64]); rotate_left
   ·omega
   ·omega
  ·repeat' (first | refine nxt ?_ | ((refine zqh fun K J => ?_); (simp (disch := omega) only [go_sem, Nat.reduceBEq, ↓reduceIte, reduceCtorEq, Nat.reduceAdd, Nat.reduceLeDiff, Nat.reduceLT, q2, q4, q5, q6, qH0, qH2, z0r, z64, List.set_cons_succ, List.set_cons_zero])) | ((refine zqd _ rfl (fun hc => ?_) (fun hc => ?_)) <;> (((try simp only [z09] at hc); (try (exfalso; omega))))) | refine zqz ?_ | refine zqu (by (simp (disch := omega) only [go_sem, Nat.reduceBEq, ↓reduceIte, Nat.reduceAdd, Nat.reduceLeDiff, q4, qH2]); rfl) rfl ?_ | (refine J _ ?_; clear J K))
   have hi2 : i = t.kids.length := by omega
   subst hi2
   rw [List.take_length] at qH3
   refine z3h (z5m 2 (t := t.setKids (t.kids.map (z1g x.id (fun q => x.setKids q.kids)))) (z16 (f := z0b) (l := t.kids.map (z1g x.id (fun q => x.setKids q.kids))) 1 ?_ ?_ z0k z2s z0d z04) rfl)
   ·rw [List.length_map]
   ·(simp (disch := omega) only [go_sem, Nat.reduceBEq, qH3])
theorem zxw (t x : T) (hs : szB t = true) (hx : szB x = true) (hc : cntT x <= 1000000) : PC Tryz.prog 188 [z0h t, z0h x] (.bool ((z0j x).any fun i => (z06 i t).2)) := by
 have c1 := zq5 x hx (by omega)
 have hl := z2c x
 refine z14 1 (by simp only [pureD.pureL, z01, Bool.and_self]) rfl (z10 [3000015, 3000019, 5000020] Tryz.func188 rfl (by decide +kernel) z0e (by decide +kernel) (by simp [Tryz.ntmps188]) ?_)
 show awp _ _ (Code.seq _ _) _ _
 repeat' (first | refine nxt ?_ | ((first | refine zqh fun K J => ?_ | refine zqs (c1) ?_); (simp (disch := omega) only [go_sem, Nat.reduceBEq, ↓reduceIte, Nat.reduceAdd, Nat.reduceLeDiff])) | (refine J _ ?_; clear J K))
 (refine z3m (fun U st => ∃ (i : _), U = (z0j x).length - i /\ st.t 2 = .ptr 0 0 /\ st.t 3 = .ptr 1 0 /\ st.t 5 = z15 (z0j x) /\ st.t 6 = .int .i64 i /\ st.H 0 = some (.box 27 (z0b t)) /\ st.H 1 = some (.box 27 (z0b x)) /\ (i <= (z0j x).length) /\ (2 <= st.nx) /\ (((z0j x).take i).any (fun i => (z06 i t).2) = false)) ?_ ?_); rotate_left; (rintro U st ⟨i, rfl, q2, q3, q5, q6, qH0, qH1, qp0, qp1, qp2⟩); rotate_left
 ·(refine ⟨_, 0, rfl, ?_⟩); (simp (disch := omega) only [go_sem, Nat.reduceBEq, Nat.reduceLeDiff, and_self, Int.natCast_zero])
  try simp
 have hin := fun (h : i < (z0j x).length) => zy2 t hs (z0j x)[i]
 repeat' (first | refine nxt ?_ | ((first | refine zqh fun K J => ?_ | refine zqe (by decide +kernel) fun K J => ?_ | refine zqr fun K J => ?_ | refine zqt (hin (by omega)) ?_); (simp (disch := omega) only [go_sem, Nat.reduceBEq, Nat.reduceEqDiff, ↓reduceIte, reduceCtorEq, Nat.reduceAdd, Nat.reduceLeDiff, q2, q5, q6, qH0, z15])) | ((first | refine zqd _ rfl (fun hc => ?_) (fun hc => ?_) | refine zqm _ rfl (fun hc => ?_) (fun hc => ?_)) <;> (((try simp only [z09] at hc); (try (exfalso; omega))))) | refine zqz ?_ | refine zqu (by (simp (disch := omega) only [go_sem]); rfl) rfl ?_ | (refine J _ ?_; clear J K))
 ·exact z03 (zkk (i := i) (by omega) (by assumption)).symm
 ·(refine Exists.intro _ (And.intro ?_ ⟨i + 1, rfl, ?_⟩)); rotate_left; (simp (disch := omega) only [go_sem, Nat.reduceBEq, q2, q3, q5, q6, qH0, qH1, true_and, Int.natCast_add, Int.natCast_one]); rotate_left
  ·omega
  ·exact ⟨by omega, by omega, z52 (by omega) qp2 (by assumption)⟩
 ·exact z03 (zkl (i := i) (by omega) qp2).symm

namespace Tr
def z3d (u : T) (parent : Idv) (i : Int) (x : T) : Int :=
 if standsT u = false \/ standsT x = false \/ x.kind = 0 then 1 else
 if (z06 parent u).2 = false then 4 else
 if z1w (z06 parent u).1.kind x.kind = false then 9 else
 if i < 0 \/ ((z06 parent u).1.kids.length : Int) < i then 3 else
 if z3a (z06 parent u).1.kids x.kind x.label = true then 10 else
 if 64 <= (z06 parent u).1.kids.length \/ 8 < (z78 parent u).length + 1 + depT x \/ 1024 < cntT u + cntT x then 6 else
 if ((z0j x).any fun i => (z06 i u).2) = true then 5 else 0
theorem zl0 (l : List T) (k : Int) (n : ByteArray) (b : Idv) : zmu l k n b true = z3a l k n := by
 unfold zmu z3a; simp
theorem zc2 {id : Idv} {u : T} (h : (z06 id u).2 = true) : (z06 id u).1 ∈ z0m u := by
 have hm := zas.1 h
 unfold z06
 rw [zfi _ hm]
 exact zkp id u _ (List.getElem_mem _)
theorem z8b {id : Idv} {u q : T} (hn : (z0j u).Nodup) (hq : q ∈ z0m u) (hid : q.id = id) : z06 id u = (q, true) := by
 have key : ∀ u : T, (z0j u).Nodup -> q ∈ z0m u -> z06 id u = (q, true) := by
  refine z4x fun u ih hn hq => ?_
  rw [z25, List.mem_cons] at hq
  rcases hq with rfl | hq
  ·exact z3f hid
  ·obtain ⟨k, O, hqk⟩ := List.mem_flatMap.1 hq
   obtain ⟨i, hi, rfl⟩ := List.getElem_of_mem O
   obtain ⟨g1, g2, g3⟩ := ze2 hn
   have hin : id ∈ z0j u.kids[i] := List.mem_map.2 ⟨q, hqk, hid⟩
   have h2 := ih _ O (g2 _ O) hqk
   have hw : z2i id u.kids[i] ≠ [] := za8.2 hin
   rw [z5l (z6h (fun e => g1 _ O (e ▸ hin)) hi (fun j hj h => (z9a id _).2 (g3 i j hi h (by omega) id hin)) hw) hw, h2]
 exact key u hn hq
def z5k (u : T) (id : Idv) : Int := if standsT u = false then 1 else if (z06 id u).2 = false then 4 else if u.id = id then 9 else 0
theorem zc3 {u x : T} {parent : Idv} {i : Int} (h : z3d u parent i x = 0) : (standsT u = true /\ standsT x = true /\ x.kind ≠ 0 /\ (z06 parent u).2 = true /\ z1w (z06 parent u).1.kind x.kind = true /\ z3a (z06 parent u).1.kids x.kind x.label = false /\ (z06 parent u).1.kids.length < 64 /\ (z78 parent u).length + 1 + depT x <= 8 /\ cntT u + cntT x <= 1024 /\ ((z0j x).any fun i => (z06 i u).2) = false) /\
  parent ∈ z0j u /\ ∃ n : Nat, i = n /\ ∀ q ∈ z0m u, q.id = parent -> n <= q.kids.length := by
 unfold z3d at h
 split at h
 ·cases h
 rename_i h1
 split at h
 ·cases h
 rename_i h2
 split at h
 ·cases h
 rename_i h3
 split at h
 ·cases h
 rename_i h4
 split at h
 ·cases h
 rename_i h5
 split at h
 ·cases h
 rename_i h6
 split at h
 ·cases h
 rename_i h7
 simp only [not_or, Bool.not_eq_false, Bool.not_eq_true] at h1 h2 h3 h5 h7
 refine ⟨⟨h1.1, h1.2.1, h1.2.2, h2, h3, h5, by omega, by omega, by omega, h7⟩, ?_, i.toNat, by omega, fun q hq hid => ?_⟩
 ·rw [z32, decide_eq_true_eq] at h2; exact h2
 ·rw [z8b ((z24 u).1 h1.1).2.2.2.1 hq hid] at h4
  simp only at h4
  omega
end Tr
theorem zzk (u x : T) (hu : szB u = true) (hx : szB x = true) (cu : cntT u <= 1000000) (cx : cntT x <= 1000000) (du : depT u <= 1000000) (dx : depT x <= 1000000) (parent : Idv) (i : Int) (hi : -9223372036854775808 <= i /\ i <= 9223372036854775807) :
  PC Tryz.prog 147 [z0h u, z19 parent, .int .i64 i, z0h x] (.int .i64 (z3d u parent i x)) := by
 have c1 := z5q u hu (by omega) (by omega)
 have c2 := z5q x hx (by omega) (by omega)
 have c3 := z48 parent u hu
 have hf := z4p parent u hu
 have O := (z9c hf).1
 have c4 := zjt (z06 parent u).1.kind x.kind
 have c5 := zh0 (z06 parent u).1.kids O x.kind x.label x.id true
 rw [zl0] at c5
 have c6 := zrp u hu (by omega) parent
 have c7 := zga x hx (by omega)
 have c8 := zg9 u hu (by omega)
 have c9 := zg9 x hx (by omega)
 have c10 := zxw u x hu hx cx
 have ha := zfj parent u
 unfold z3d
 refine z14 1 (by simp only [pureD.pureL, z01, pureD, Bool.and_self]; rfl) rfl (z10 [8000000, 3000057, 3000061, 3000062, 5000063, 3000065, 5000066, 3000071, 5000072, 3000073, 5000074] Tryz.func147 rfl (by decide +kernel) z0e (by decide +kernel) (by simp [Tryz.ntmps147]) ?_)
 show awp _ _ (Code.seq _ _) _ _
 repeat' (first | refine nxt ?_ | ((first | refine z1r (N := 10) rfl fun K J => ?_ | refine zqs (c1) ?_ | refine zqs (c2) ?_ | refine zqs (c3) ?_ | refine zqs (c4) ?_); (simp (disch := omega) only [go_sem, Nat.reduceBEq, ↓reduceIte, reduceCtorEq, Nat.reduceAdd, Nat.reduceLeDiff])) | ((refine zqd _ rfl (fun hc => ?_) (fun hc => ?_)) <;> (first | (cases hc; done) | ((try simp only [z09] at hc); (try (exfalso; omega))))) | refine zqu (by (simp (disch := omega) only [go_sem]); rfl) rfl ?_ | (refine J _ ?_; clear J K) | (refine zqf (fun hb => ?_) (fun hb => ?_) <;> (have hb2 := hb; try simp only [z09] at hb2) <;> ((first | have F : (_ : Bool) = _ := hb2 | have F := eq_false hb2 | have F := eq_true hb2); (simp (disch := omega) only [go_sem, Nat.reduceBEq, ↓reduceIte, reduceCtorEq, Nat.reduceAdd, Nat.reduceLeDiff, F, z0r]); clear hb F; (try (exfalso; omega)))))
 all_goals first | (refine z1j ?_; clear c1 c2 c3 c4 c5 c6 c7 c8 c9 c10; (repeat' split) <;> first | rfl | (exfalso; simp_all <;> omega)) | skip
 (refine zvh (fun st => st.t 2 = .int .i64 i /\ st.t 4 = .ptr 0 0 /\ st.t 5 = .ptr 1 0 /\ st.t 7 = .ptr 2 0 /\ st.t 9 = .ptr 3 0 /\ st.H 0 = some (.box 27 (z0b u)) /\ st.H 1 = some (.box 23 (z0a parent)) /\ st.H 2 = some (.box 27 (z0b x)) /\ st.H 3 = some (.box 27 (z0b (z06 parent u).1)) /\ st.nx = 4) ?_ ?_); rotate_left; (rintro st ⟨p2, p4, p5, p7, p9, pH0, pH1, pH2, pH3, pnx⟩); rotate_left
 ·(simp (disch := omega) only [go_sem, Nat.reduceBEq, and_self, z0a])
 repeat' (first | refine nxt ?_ | ((first | refine zqh fun K J => ?_ | refine zqe (by decide +kernel) fun K J => ?_ | refine zqs (c5) ?_ | refine zqt (c6) ?_ | refine zqt (c7) ?_ | refine zqt (c8) ?_ | refine zqt (c9) ?_ | refine zqs (c10) ?_); (simp (disch := omega) only [go_sem, Nat.reduceBEq, Nat.reduceEqDiff, ↓reduceIte, reduceCtorEq, Nat.reduceAdd, Nat.reduceLeDiff, Nat.reduceLT, p4, p7, p9, pH0, pH2, pH3, pnx, z0r])) | ((refine zqd _ rfl (fun hc => ?_) (fun hc => ?_)) <;> (first | (cases hc; done) | ((try simp only [z09] at hc); (try (exfalso; omega))))) | refine zqu (by (simp (disch := omega) only [go_sem]); rfl) rfl ?_ | (refine J _ ?_; clear J K) | (refine zqf (fun hb => ?_) (fun hb => ?_) <;> (have hb2 := hb; try simp only [z09] at hb2) <;> ((first | have F := eq_false hb2 | have F := eq_true hb2); (simp (disch := omega) only [go_sem, Nat.reduceBEq, Nat.reduceEqDiff, ↓reduceIte, Nat.reduceAdd, Nat.reduceLeDiff, F, p4, p5, pH0, pH1, pnx, z0a]); clear hb F; (try (exfalso; omega)))))
 all_goals (refine z1j ?_; clear c1 c2 c3 c4 c5 c6 c7 c8 c9 c10; (repeat' split) <;> first | rfl | (exfalso; simp_all <;> omega))
theorem zs8 (u x : T) (hu : szB u = true) (hx : szB x = true) (cu : cntT u <= 1000000) (cx : cntT x <= 1000000) (du : depT u <= 1000000) (dx : depT x <= 1000000) (parent : Idv) (i : Int) (hi : -9223372036854775808 <= i /\ i <= 9223372036854775807) :
  PC Tryz.prog 98 [z0h u, z19 parent, .int .i64 i, z0h x] (.tup [z0h (if z3d u parent i x ≠ 0 then T.zero else z1g parent (z7j i.toNat x) u), .int .i64 (z3d u parent i x)]) := by
 have c1 := zzk u x hu hx cu cx du dx parent i hi
 refine z14 3 (by simp only [pureD.pureL, z01, pureD, Bool.and_self]; rfl) (by simp only [pureD.pureL, z01, pureD, Bool.and_self]) (z10 [] Tryz.func98 rfl (by decide +kernel) z0e (by decide +kernel) (by simp [Tryz.ntmps98]) ?_)
 show awp _ _ (Code.seq _ _) _ _
 rw [show Tryz.f98.results.toList = [.cell 8 27, .tmp 9] from rfl]
 by_cases hw : z3d u parent i x = 0
 ·obtain ⟨hr, hm, n, rfl, hn⟩ := zc3 hw
  have c2 := zrn parent n x u hu hn
  rw [hw] at c1 ⊢
  rw [if_neg (fun h => h rfl), Int.toNat_natCast]
  repeat' (first | refine nxt ?_ | ((first | refine zqh fun K J => ?_ | refine zqs (c1) ?_ | refine zqs (c2) ?_); (simp (disch := omega) only [go_sem, Nat.reduceBEq, ↓reduceIte, Nat.reduceAdd, Nat.reduceLeDiff])) | ((refine zqd _ rfl (fun hc => ?_) (fun hc => ?_)) <;> (first | (cases hc; done) | ((try simp only [] at hc); (try (exfalso; omega))))) | refine zqu (by (simp (disch := omega) only [go_sem, Nat.reduceBEq, ↓reduceIte, Nat.reduceLeDiff]); rfl) rfl ?_ | (refine J _ ?_; clear J K))
  refine z07 ?_ (Le.refl _)
  simp only [pureD, pureD.pureL, z04, Bool.and_self]
 ·rw [if_pos hw]
  repeat' (first | refine nxt ?_ | ((first | refine zqh fun K J => ?_ | refine zqs (c1) ?_); (simp (disch := omega) only [go_sem, Nat.reduceBEq, ↓reduceIte, Nat.reduceAdd, Nat.reduceLeDiff])) | ((refine zqd _ rfl (fun hc => ?_) (fun hc => ?_)) <;> (((try simp only [z09] at hc); (try (exfalso; omega))))) | refine zqu (by (simp (disch := omega) only [go_sem, Nat.reduceBEq, ↓reduceIte, Nat.reduceAdd, Nat.reduceLeDiff]); rfl) rfl ?_ | (refine J _ ?_; clear J K))
  exact z07 rfl (Le.tup ⟨z0u, Le.refl _, trivial⟩)
theorem pc_Take (u : T) (hu : szB u = true) (cu : cntT u <= 1000000) (du : depT u <= 1000000) (id : Idv) :
  PC Tryz.prog 99 [z0h u, z19 id] (.tup [z0h (if z5k u id = 0 then z0o id u else T.zero), z0h (if z5k u id = 0 then (z06 id u).1 else T.zero), .int .i64 (z5k u id)]) := by
 have c1 := z5q u hu (by omega) (by omega)
 have c3 := z48 id u hu
 have c4 := ziv id u hu
 have hz : Le (.agg [.int .i64 0, .int .i64 0, .int .i64 0, .int .i64 0, .str ByteArray.empty, .nil, .nil, .nil]) (z0h T.zero) := z0u
 refine z14 3 (by simp only [pureD.pureL, z01]; rfl) (by simp only [pureD.pureL, z01, pureD, Bool.and_self]) (z10 [3000030, 3000031, 5000032, 600033, 900004, 600004, 900002, 600005, 900003] Tryz.func99 rfl (by decide +kernel) z0e (by decide +kernel) (by simp [Tryz.ntmps99]) ?_)
 show awp _ _ (Code.seq _ _) _ _
 rw [show Tryz.f99.results.toList = [.cell 4 27, .cell 5 27, .tmp 6] from rfl]
 by_cases h1 : standsT u = true
 ·by_cases h2 : (z06 id u).2 = true
  ·by_cases h3 : u.id = id
   ·have e : z5k u id = 9 := by unfold z5k; rw [if_neg (by simp [h1]), if_neg (by simp [h2]), if_pos h3]
    rw [e, if_neg (by decide), if_neg (by decide)]
    have h3d : decide (u.id = id) = true := decide_eq_true h3
    rw [h1] at c1
    rw [h2] at c3
    repeat' (first | refine nxt ?_ | ((first | refine zqh fun K J => ?_ | refine zqs (c1) ?_ | refine zqs (c3) ?_); (simp (disch := omega) only [go_sem, Nat.reduceBEq, ↓reduceIte, reduceCtorEq, Nat.reduceAdd, Nat.reduceLeDiff, h3d])) | ((refine zqd _ rfl (fun hc => ?_) (fun hc => ?_)) <;> (first | (cases hc; done) | ((try simp only [] at hc); (try (exfalso; omega))))) | refine zqu (by (simp (disch := omega) only [go_sem, Nat.reduceBEq, ↓reduceIte, Nat.reduceAdd, Nat.reduceLeDiff]); rfl) rfl ?_ | (refine J _ ?_; clear J K))
    exact z07 rfl (Le.tup ⟨z0u, z0u, Le.refl _, trivial⟩)
   ·have e : z5k u id = 0 := by unfold z5k; rw [if_neg (by simp [h1]), if_neg (by simp [h2]), if_neg h3]
    rw [e, if_pos rfl, if_pos rfl]
    have h3d : decide (u.id = id) = false := decide_eq_false h3
    rw [h1] at c1
    rw [h2] at c3
    repeat' (first | refine nxt ?_ | ((first | refine zqh fun K J => ?_ | refine zqe (by decide +kernel) fun K J => ?_ | refine zqs (c1) ?_ | refine zqs (c3) ?_ | refine zqt (c4) ?_); (simp (disch := omega) only [go_sem, Nat.reduceBEq, Nat.reduceEqDiff, ↓reduceIte, reduceCtorEq, Nat.reduceAdd, Nat.reduceLeDiff, h3d])) | ((refine zqd _ rfl (fun hc => ?_) (fun hc => ?_)) <;> (first | (cases hc; done) | ((try simp only [] at hc); (try (exfalso; omega))))) | refine zqu (by (simp (disch := omega) only [go_sem, Nat.reduceBEq, ↓reduceIte, Nat.reduceLeDiff]); rfl) rfl ?_ | (refine J _ ?_; clear J K))
    refine z07 ?_ (Le.refl _)
    simp only [pureD, pureD.pureL, z04, Bool.and_self]
  ·have e : z5k u id = 4 := by unfold z5k; rw [if_neg (by simp [h1]), if_pos (by simpa using h2)]
   rw [e, if_neg (by decide), if_neg (by decide)]
   rw [Bool.not_eq_true] at h2
   rw [h1] at c1
   rw [h2] at c3
   repeat' (first | refine nxt ?_ | ((first | refine zqh fun K J => ?_ | refine zqs (c1) ?_ | refine zqs (c3) ?_); (simp (disch := omega) only [go_sem, Nat.reduceBEq, ↓reduceIte, Nat.reduceAdd, Nat.reduceLeDiff])) | ((refine zqd _ rfl (fun hc => ?_) (fun hc => ?_)) <;> (first | (cases hc; done) | ((try simp only [] at hc); (try (exfalso; omega))))) | refine zqu (by (simp (disch := omega) only [go_sem, Nat.reduceBEq, ↓reduceIte, Nat.reduceAdd, Nat.reduceLeDiff]); rfl) rfl ?_ | (refine J _ ?_; clear J K))
   exact z07 rfl (Le.tup ⟨z0u, z0u, Le.refl _, trivial⟩)
 ·have e : z5k u id = 1 := by unfold z5k; rw [if_pos (by simpa using h1)]
  rw [e, if_neg (by decide), if_neg (by decide)]
  rw [Bool.not_eq_true] at h1
  rw [h1] at c1
  repeat' (first | refine nxt ?_ | ((first | refine zqh fun K J => ?_ | refine zqs (c1) ?_); (simp (disch := omega) only [go_sem, Nat.reduceBEq, ↓reduceIte, Nat.reduceAdd, Nat.reduceLeDiff])) | ((refine zqd _ rfl (fun hc => ?_) (fun hc => ?_)) <;> (first | (cases hc; done) | ((try simp only [] at hc); (try (exfalso; omega))))) | refine zqu (by (simp (disch := omega) only [go_sem, Nat.reduceBEq, ↓reduceIte, Nat.reduceAdd, Nat.reduceLeDiff]); rfl) rfl ?_ | (refine J _ ?_; clear J K))
  exact z07 rfl (Le.tup ⟨z0u, z0u, Le.refl _, trivial⟩)
namespace Abs
theorem z36 {P : Program} {H : HM} {nn : Bool} {sz : Nat} {els els' : List D} (k : Nat) (hp : pureD.pureL els = false) (hc : ze0 (z2p P H k) els = some els') : z2p P H (k + 1) (.rsl nn sz els) = some (.rsl nn sz els') := by
 unfold z2p
 simp only [pureD, hp, Bool.false_eq_true, if_false, hc, Option.map_some]
abbrev Chk := FuncId × List D × Int × Bool
def zkw (c : Chk) : D := .agg [.fn c.1 c.2.1, .int .i64 c.2.2.1]
def z8m (l : List Chk) : Int := match l.find? (fun c => c.2.2.2) with
 | some c => c.2.2.1
 | none => 0
theorem ztj {l : List Chk} {i : Nat} (hi : i < l.length) (h1 : ∀ j, (hj : j < i) -> (h : j < l.length) -> l[j].2.2.2 = false) (h2 : l[i].2.2.2 = true) : z8m l = l[i].2.2.1 := by
 unfold z8m
 have : l.find? (fun c => c.2.2.2) = some l[i] := List.find?_eq_some_iff_getElem.2 ⟨h2, i, hi, rfl, fun j hj => by rw [h1 j hj (by omega)]; rfl⟩
 rw [this]
theorem zoo {l : List Chk} (h1 : ∀ j, (h : j < l.length) -> l[j].2.2.2 = false) : z8m l = 0 := by
 unfold z8m
 have : l.find? (fun c => c.2.2.2) = none := by
  rw [List.find?_eq_none]
  intro c hc
  obtain ⟨j, hj, rfl⟩ := List.getElem_of_mem hc
  rw [h1 j hj]; simp
 rw [this]
theorem z4l (f : FuncId) (c : List D) (e : Int) (l : List Chk) : z8m ((f, c, e, false) :: l) = z8m l := rfl
theorem z0w {P : Program} {H : HM} {f : FuncId} {cap cap' : List D} {e : Int} (b : Bool) (k : Nat) (hp : pureD.pureL cap = false) (hc : ze0 (z2p P H (k + 1)) cap = some cap') : z2p P H (k + 3) (.agg [.fn f cap, .int .i64 e]) = some (zkw (f, cap', e, b)) :=
 z4z (k + 2) (by simp only [pureD.pureL, pureD, hp, Bool.false_and]) (z00 (zc7 (k + 1) hp hc) (z00 (z02 (k + 1) rfl) z0c))
end Abs
theorem zb8 (l : List Chk) (hl : l.length <= 1000) (hp : ∀ c ∈ l, pureD.pureL c.2.1 = true /\ PC Tryz.prog c.1 c.2.1 (.bool c.2.2.2)) : PC Tryz.prog 117 [.rsl true 2 (l.map zkw)] (.int .i64 (z8m l)) := by
 have hpu : ∀ c ∈ l, pureD (zkw c) = true := fun c hc => by simp only [zkw, pureD, pureD.pureL, (hp c hc).1, Bool.and_self]
 refine z14 1 (by
  simp only [pureD.pureL, pureD, Bool.and_true]
  clear hl
  induction l with
  | nil => rfl
  | cons c l ih =>
   simp only [List.map_cons, pureD.pureL, Bool.and_eq_true]
   exact ⟨hpu c (by simp), ih (fun c hc => hp c (List.mem_cons_of_mem _ hc)) (fun c hc => hpu c (List.mem_cons_of_mem _ hc))⟩) rfl (z10 [] Tryz.func117 rfl (by decide +kernel) z0e (by decide +kernel) (by simp [Tryz.ntmps117]) ?_)
 show awp _ _ (Code.seq _ _) _ _
 repeat' (first | refine nxt ?_ | ((refine zqh fun K J => ?_); (simp (disch := omega) only [go_sem, Nat.reduceBEq])) | (refine J _ ?_; clear J K))
 (refine z3m (fun U st => ∃ (i : _), U = l.length - i /\ st.t 5 = .rsl true 2 (l.map zkw) /\ st.t 6 = .int .i64 l.length /\ st.t 7 = .int .i64 i /\ (i <= l.length) /\ (∀ j, (hj : j < i) -> (h : j < l.length) -> l[j].2.2.2 = false)) ?_ ?_); rotate_left; (rintro U st ⟨i, rfl, q5, q6, q7, qp0, qp1⟩); rotate_left
 ·(refine ⟨_, 0, rfl, ?_⟩); (simp (disch := omega) only [go_sem, Nat.reduceBEq, true_and, Int.natCast_zero])
  intro j hj; omega
 by_cases hi : i < l.length
 ·have hci := (hp l[i] (List.getElem_mem hi)).2
  repeat' (first | ((first | refine zqh fun K J => ?_ | refine zqr fun K J => ?_ | refine zqs (hci) ?_); (simp (disch := omega) only [go_sem, Nat.reduceBEq, ↓reduceIte, reduceCtorEq, Nat.reduceAdd, Nat.reduceLeDiff, q5, q6, q7, zkw])) | ((first | refine zqd _ rfl (fun hc => ?_) (fun hc => ?_) | refine zqm _ rfl (fun hc => ?_) (fun hc => ?_)) <;> (((try simp only [z09] at hc); (try (exfalso; omega))))) | refine nxt ?_ | refine zqu (by (simp (disch := omega) only [go_sem]); rfl) rfl ?_ | (refine J _ ?_; clear J K))
  ·rw [ztj hi qp1 (by assumption)]; exact z1j rfl
  ·(refine Exists.intro _ (And.intro ?_ ⟨i + 1, rfl, ?_⟩)); rotate_left; (simp (disch := omega) only [go_sem, Nat.reduceBEq, q5, q6, q7, true_and, Int.natCast_add, Int.natCast_one]); rotate_left
   ·omega
   ·refine ⟨by omega, fun j hj h => ?_⟩
    by_cases e : j = i
    ·subst e; assumption
    ·exact qp1 j (by omega) h
 ·repeat' (first | ((refine zqh fun K J => ?_); (simp (disch := omega) only [go_sem, ↓reduceIte, q6, q7])) | ((refine zqd _ rfl (fun hc => ?_) (fun hc => ?_)) <;> (((try simp only [z09] at hc); (try (exfalso; omega))))) | refine nxt ?_ | refine zqz ?_ | refine zqu (by (simp (disch := omega) only [go_sem]); rfl) rfl ?_ | (refine J _ ?_; clear J K))
  rw [zoo fun j h => qp1 j (by omega) h]; exact z1j rfl
theorem pc_fits3 (ok : Bool) : PC Tryz.prog 175 [.rptr (.bool ok)] (.bool (!ok)) := by
 refine z14 1 rfl rfl (z10 [] Tryz.func175 rfl (by decide +kernel) z0e (by decide +kernel) (by simp [Tryz.ntmps175]) ?_)
 show awp _ _ (Code.seq _ _) _ _
 repeat' (first | ((refine zqh fun K J => ?_); (simp (disch := omega) only [go_sem, Nat.reduceBEq, ↓reduceIte, Nat.reduceAdd])) | refine nxt ?_ | refine zqu (by (simp (disch := omega) only [go_sem]); rfl) rfl ?_ | (refine J _ ?_; clear J K))
 exact z03 rfl
theorem pc_fits4 (p x : T) : PC Tryz.prog 176 [.rptr (z0h p), .rptr (z0h x)] (.bool (!z1w p.kind x.kind)) := by
 have c1 := z9b p.kind x.kind
 refine z14 1 (by simp only [pureD.pureL, z01, pureD, Bool.and_self]) rfl (z10 [] Tryz.func176 rfl (by decide +kernel) z0e (by decide +kernel) (by simp [Tryz.ntmps176]) ?_)
 show awp _ _ (Code.seq _ _) _ _
 repeat' (first | ((first | refine zqh fun K J => ?_ | refine zqs (c1) ?_); (simp (disch := omega) only [go_sem, Nat.reduceBEq, ↓reduceIte, reduceCtorEq, Nat.reduceAdd])) | refine nxt ?_ | refine zqu (by (simp (disch := omega) only [go_sem]); rfl) rfl ?_ | (refine J _ ?_; clear J K))
 exact z03 rfl
theorem pc_fits5 (p : T) (i : Int) : PC Tryz.prog 177 [.rptr (.int .i64 i), .rptr (z0h p)] (.bool (decide (i < 0) || decide ((p.kids.length : Int) < i))) := by
 refine z14 1 (by simp only [pureD.pureL, z01, pureD, Bool.and_self]) rfl (z10 [] Tryz.func177 rfl (by decide +kernel) z0e (by decide +kernel) (by simp [Tryz.ntmps177]) ?_)
 show awp _ _ (Code.seq _ _) _ _
 repeat' (first | ((refine zqh fun K J => ?_); (simp (disch := omega) only [go_sem, Nat.reduceBEq, ↓reduceIte, Nat.reduceAdd])) | refine nxt ?_ | refine zqu (by (simp (disch := omega) only [go_sem]); rfl) rfl ?_ | (refine J _ ?_; clear J K) | (refine zqf (fun hb => ?_) (fun hb => ?_) <;> (have hb2 := hb; try simp only [z09] at hb2) <;> ((first | have F := eq_false hb2 | have F := eq_true hb2); (simp (disch := omega) only [go_sem, Nat.reduceBEq, ↓reduceIte, reduceCtorEq, Nat.reduceAdd, F, z0r]); clear hb F; (try (exfalso; omega)))))
 all_goals exact z03 (by simp [hb2])
theorem pc_fits6 (p x : T) (hp : szB p = true) : PC Tryz.prog 178 [.rptr (z0h p), .rptr (z0h x)] (.bool (z3a p.kids x.kind x.label)) := by
 have c1 := zk5 p.kids (z9c hp).1 x.kind x.label
 refine z14 1 (by simp only [pureD.pureL, z01, pureD, Bool.and_self]) rfl (z10 [] Tryz.func178 rfl (by decide +kernel) z0e (by decide +kernel) (by simp [Tryz.ntmps178]) ?_)
 show awp _ _ (Code.seq _ _) _ _
 repeat' (first | ((first | refine zqh fun K J => ?_ | refine zqs (c1) ?_); (simp (disch := omega) only [go_sem, Nat.reduceBEq, ↓reduceIte, reduceCtorEq, Nat.reduceAdd, z0r])) | refine nxt ?_ | refine zqu (by (simp (disch := omega) only [go_sem]); rfl) rfl ?_ | (refine J _ ?_; clear J K))
 exact z03 rfl
def fullB (u p : T) (parent : Idv) (x : T) : Bool := decide (64 <= p.kids.length \/ 8 < (z78 parent u).length + 1 + depT x \/ 1024 < cntT u + cntT x)
theorem pc_fits2 (u p x : T) (hu : szB u = true) (hx : szB x = true) (cu : cntT u <= 1000000) (cx : cntT x <= 1000000) (du : depT u <= 1000000) (dx : depT x <= 1000000) (parent : Idv) :
  PC Tryz.prog 174 [.rptr (z0h p), .rptr (z0h u), .rptr (z19 parent), .rptr (z0h x)] (.bool (fullB u p parent x)) := by
 have c1 := zr7 u (z8h u hu) (by omega) parent
 have c2 := zku x (z7u x hx) (by omega)
 have c3 := zfg u (z7u u hu) (by omega)
 have c4 := zfg x (z7u x hx) (by omega)
 have ha := zfj parent u
 refine z14 1 (by simp only [pureD.pureL, z01, pureD, Bool.and_self]; rfl) rfl (z10 [8000000, 3000006, 3000010, 3000011, 5000012, 3000014, 5000015, 3000020, 5000021, 3000022, 5000023] Tryz.func174 rfl (by decide +kernel) z0e (by decide +kernel) (by simp [Tryz.ntmps174]) ?_)
 show awp _ _ (Code.seq _ _) _ _
 repeat' (first | ((first | refine zqh fun K J => ?_ | refine zqe (by decide +kernel) fun K J => ?_ | refine zqt (c1) ?_ | refine zqt (c2) ?_ | refine zqt (c3) ?_ | refine zqt (c4) ?_); (simp (disch := omega) only [go_sem, Nat.reduceBEq, Nat.reduceEqDiff, ↓reduceIte, reduceCtorEq, Nat.reduceAdd, z0r])) | refine nxt ?_ | refine zqu (by (simp (disch := omega) only [go_sem]); rfl) rfl ?_ | (refine J _ ?_; clear J K) | (refine zqf (fun hb => ?_) (fun hb => ?_) <;> (have hb2 := hb; try simp only [z09] at hb2) <;> ((first | have F := eq_false hb2 | have F := eq_true hb2); (simp (disch := omega) only [go_sem, Nat.reduceBEq, Nat.reduceEqDiff, ↓reduceIte, Nat.reduceAdd, F]); clear hb F; (try (exfalso; omega)))))
 ·exact z03 (decide_eq_decide.2 (by omega))
 ·exact z03 (decide_eq_true (by omega)).symm
 ·exact z03 (decide_eq_true (by omega)).symm
theorem zx4 (u : T) (hu : szB u = true) (du : depT u <= 1000000) (id : Idv) : PC Tryz.prog 173 [z19 id, .rptr (z0h u)] (.bool (z06 id u).2) := by
 have c1 := zmk u (z8h u hu) (by omega) id
 refine z14 1 (by simp only [pureD.pureL, z01, pureD, Bool.and_self]; rfl) rfl (z10 [] Tryz.func173 rfl (by decide +kernel) z0e (by decide +kernel) (by simp [Tryz.ntmps173]) ?_)
 show awp _ _ (Code.seq _ _) _ _
 repeat' (first | ((first | refine zqh fun K J => ?_ | refine zqs (c1) ?_); (simp (disch := omega) only [go_sem, Nat.reduceBEq, ↓reduceIte, Nat.reduceAdd, Nat.reduceLeDiff])) | refine nxt ?_ | refine zqu (by (simp (disch := omega) only [go_sem]); rfl) rfl ?_ | (refine J _ ?_; clear J K))
 exact z03 rfl
theorem pc_fits1 (u x : T) (hu : szB u = true) (hx : szB x = true) (cx : cntT x <= 1000000) (du : depT u <= 1000000) : PC Tryz.prog 172 [.rptr (z0h x), .rptr (z0h u)] (.bool ((z0j x).any fun i => (z06 i u).2)) := by
 have c1 := zrl x (z7u x hx) (by omega)
 have hl := z2c x
 have c2 := z4m false (z0j x) (by unfold maxLen; omega) (g := 173) (cap := [.rptr (z0h u)]) (fun i => (z06 i u).2) (by simp only [pureD.pureL, z01, pureD, Bool.and_self]) (fun i _ => zx4 u hu du i)
 refine z14 1 (by simp only [pureD.pureL, z01, pureD, Bool.and_self]) rfl (z10 [] Tryz.func172 rfl (by decide +kernel) z0e (by decide +kernel) (by simp [Tryz.ntmps172]) ?_)
 show awp _ _ (Code.seq _ _) _ _
 repeat' (first | ((first | refine zqh fun K J => ?_ | refine zqs (c1) ?_ | refine zqs (c2) ?_); (simp (disch := omega) only [go_sem, Nat.reduceBEq, ↓reduceIte, Nat.reduceAdd])) | refine nxt ?_ | refine zqu (by (simp (disch := omega) only [go_sem]); rfl) rfl ?_ | (refine J _ ?_; clear J K))
 exact z03 rfl
theorem zop (u p x : T) (ok : Bool) (parent : Idv) (i : Int) (hs : standsT u = true) (hx : standsT x = true) (O : x.kind ≠ 0) (hf : z06 parent u = (p, ok)) (f3 f4 f5 f6 f2 f1 : FuncId) (c3 c4 c5 c6 c2 c1 : List D) :
  z8m [(f3, c3, 4, !ok), (f4, c4, 9, !z1w p.kind x.kind), (f5, c5, 3, decide (i < 0) || decide ((p.kids.length : Int) < i)), (f6, c6, 10, z3a p.kids x.kind x.label), (f2, c2, 6, fullB u p parent x), (f1, c1, 5, (z0j x).any fun i => (z06 i u).2)] = z3d u parent i x := by
 unfold z3d
 rw [if_neg (by rw [hs, hx]; simp [O]), hf]
 cases ok
 ·rw [if_pos rfl]; rfl
 rw [if_neg (by simp), Bool.not_true, z4l]
 cases hn : z1w p.kind x.kind
 ·rw [if_pos rfl]; rfl
 rw [if_neg (by simp), Bool.not_true, z4l]
 by_cases hi : i < 0 \/ (p.kids.length : Int) < i
 ·rw [if_pos hi, show (decide (i < 0) || decide ((p.kids.length : Int) < i)) = true from by simpa using hi]; rfl
 rw [if_neg hi, show (decide (i < 0) || decide ((p.kids.length : Int) < i)) = false from by simpa using hi, z4l]
 cases ht : z3a p.kids x.kind x.label
 ·rw [if_neg (by simp), z4l]
  unfold fullB
  by_cases hfu : 64 <= p.kids.length \/ 8 < (z78 parent u).length + 1 + depT x \/ 1024 < cntT u + cntT x
  ·rw [if_pos hfu, decide_eq_true hfu]; rfl
  ·rw [if_neg hfu, decide_eq_false hfu, z4l]
   cases ha : (z0j x).any fun i => (z06 i u).2
   ·rw [if_neg (by simp)]; rfl
   ·rw [if_pos rfl]; rfl
 ·rw [if_pos rfl]; rfl
theorem pc_fits (u x : T) (hu : szB u = true) (hx : szB x = true) (cu : cntT u <= 1000000) (cx : cntT x <= 1000000) (du : depT u <= 1000000) (dx : depT x <= 1000000) (parent : Idv) (i : Int) :
  PC Tryz.prog 125 [z0h u, z19 parent, .int .i64 i, z0h x] (.int .i64 (z3d u parent i x)) := by
 have c1 := z8n u hu (by omega) (by omega)
 have c2 := z8n x hx (by omega) (by omega)
 have c3 := z7a u (z8h u hu) (by omega) parent
 have hf := z4p parent u hu
 generalize hfe : z06 parent u = q at *
 obtain ⟨p, ok⟩ := q
 have c4 := zb8 [(175, [.rptr (.bool ok)], 4, !ok), (176, [.rptr (z0h p), .rptr (z0h x)], 9, !z1w p.kind x.kind), (177, [.rptr (.int .i64 i), .rptr (z0h p)], 3, decide (i < 0) || decide ((p.kids.length : Int) < i)),
   (178, [.rptr (z0h p), .rptr (z0h x)], 10, z3a p.kids x.kind x.label), (174, [.rptr (z0h p), .rptr (z0h u), .rptr (z19 parent), .rptr (z0h x)], 6, fullB u p parent x), (172, [.rptr (z0h x), .rptr (z0h u)], 5, (z0j x).any fun i => (z06 i u).2)]
  (by simp) (by
   intro c hc
   simp only [List.mem_cons, List.not_mem_nil, or_false] at hc
   rcases hc with rfl | rfl | rfl | rfl | rfl | rfl
   ·exact ⟨rfl, pc_fits3 ok⟩
   ·exact ⟨by simp only [pureD.pureL, z01, pureD, Bool.and_self], pc_fits4 p x⟩
   ·exact ⟨by simp only [pureD.pureL, z01, pureD, Bool.and_self], pc_fits5 p i⟩
   ·exact ⟨by simp only [pureD.pureL, z01, pureD, Bool.and_self], pc_fits6 p x hf⟩
   ·exact ⟨by simp only [pureD.pureL, z01, pureD, Bool.and_self]; rfl, pc_fits2 u p x hu hx cu cx du dx parent⟩
   ·exact ⟨by simp only [pureD.pureL, z01, pureD, Bool.and_self], pc_fits1 u x hu hx cx du⟩)
 refine z14 1 (by simp only [pureD.pureL, z01, pureD, Bool.and_self]; rfl) rfl (z10 [] Tryz.func125 rfl (by decide +kernel) z0e (by decide +kernel) (by simp [Tryz.ntmps125]) ?_)
 show awp _ _ (Code.seq _ _) _ _
 by_cases hw : standsT u = false \/ standsT x = false \/ x.kind = 0
 ·rw [show z3d u parent i x = 1 from if_pos hw]
  rcases hw with h | h | h
  ·rw [h] at c1
   repeat' (first | refine nxt ?_ | ((first | refine zqh fun K J => ?_ | refine zqs (c1) ?_); (simp (disch := omega) only [go_sem, Nat.reduceBEq, ↓reduceIte, Nat.reduceAdd, Nat.reduceLeDiff])) | ((refine zqd _ rfl (fun hc => ?_) (fun hc => ?_)) <;> (first | (cases hc; done) | ((try simp only [] at hc); (try (exfalso; omega))))) | refine zqu (by (simp (disch := omega) only [go_sem]); rfl) rfl ?_ | (refine J _ ?_; clear J K))
   exact z1j rfl
  ·rw [h] at c2
   repeat' (first | refine nxt ?_ | ((first | refine zqh fun K J => ?_ | refine zqs (c1) ?_ | refine zqs (c2) ?_); (simp (disch := omega) only [go_sem, Nat.reduceBEq, ↓reduceIte, Nat.reduceAdd, Nat.reduceLeDiff])) | ((refine zqd _ rfl (fun hc => ?_) (fun hc => ?_)) <;> (first | (cases hc; done) | ((try simp only [] at hc); (try (exfalso; omega))))) | refine zqu (by (simp (disch := omega) only [go_sem]); rfl) rfl ?_ | (refine J _ ?_; clear J K) | (refine zqf (fun hb => ?_) (fun hb => ?_) <;> (have hb2 := hb; try simp only [z09] at hb2) <;> ((have F : (_ : Bool) = _ := hb2); (simp (disch := omega) only [go_sem, Nat.reduceBEq, ↓reduceIte, Nat.reduceAdd, Nat.reduceLeDiff, F]); clear hb F; (try (exfalso; omega)))))
   all_goals exact z1j rfl
  ·have w3d : decide (x.kind = 0) = true := decide_eq_true h
   repeat' (first | refine nxt ?_ | ((first | refine zqh fun K J => ?_ | refine zqs (c1) ?_ | refine zqs (c2) ?_); (simp (disch := omega) only [go_sem, Nat.reduceBEq, ↓reduceIte, Nat.reduceAdd, Nat.reduceLeDiff])) | ((refine zqd _ rfl (fun hc => ?_) (fun hc => ?_)) <;> (first | (cases hc; done) | ((try simp only [] at hc); (try (exfalso; omega))))) | refine zqu (by (simp (disch := omega) only [go_sem]); rfl) rfl ?_ | (refine J _ ?_; clear J K) | (refine zqf (fun hb => ?_) (fun hb => ?_) <;> (have hb2 := hb; try simp only [z09] at hb2) <;> ((have F : (_ : Bool) = _ := hb2); (simp (disch := omega) only [go_sem, Nat.reduceBEq, ↓reduceIte, reduceCtorEq, Nat.reduceAdd, Nat.reduceLeDiff, F, w3d]); clear hb F; (try (exfalso; omega)))))
   all_goals exact z1j rfl
 ·simp only [not_or, Bool.not_eq_false] at hw
  obtain ⟨w1, w2, w3⟩ := hw
  rw [w1] at c1
  rw [w2] at c2
  rw [zop u p x ok parent i w1 w2 w3 hfe] at c4
  have w3d : decide (x.kind = 0) = false := decide_eq_false w3
  repeat' (first | refine nxt ?_ | ((first | refine zqh fun K J => ?_ | refine zqs (c1) ?_ | refine zqs (c2) ?_ | refine zqs (c3) ?_); (simp (disch := omega) only [go_sem, Nat.reduceBEq, ↓reduceIte, reduceCtorEq, Nat.reduceAdd, Nat.reduceMul, Nat.reduceLeDiff, Nat.reduceLT, w3d])) | ((refine zqd _ rfl (fun hc => ?_) (fun hc => ?_)) <;> (first | (cases hc; done) | ((try simp only [] at hc); (try (exfalso; omega))))) | (refine J _ ?_; clear J K))
  refine z0x (PC.borrow c4 rfl 6 (z00 (z36 5 rfl (z00 (z0w _ 2 rfl (z00 (z1d (e := 4) 2 ?_ zfm (z02 1 rfl)) z0c)) (z00 (z0w _ 2 rfl (z00 (z05 (e := 27) 1 ?_ z0k (z04 _)) (z00 (z05 (e := 27) 1 ?_ z0k (z04 _)) z0c))) (z00 (z0w _ 2 rfl (z00 (z1d (e := 3) 2 ?_ z41 (z02 1 rfl)) (z00 (z05 (e := 27) 1 ?_ z0k (z04 _)) z0c))) (z00 (z0w _ 2 rfl (z00 (z05 (e := 27) 1 ?_ z0k (z04 _)) (z00 (z05 (e := 27) 1 ?_ z0k (z04 _)) z0c))) (z00 (z0w _ 2 rfl (z00 (z05 (e := 27) 1 ?_ z0k (z04 _)) (z00 (z05 (e := 27) 1 ?_ z0k (z04 _)) (z00 (z05 (e := 23) 1 ?_ z1n rfl) (z00 (z05 (e := 27) 1 ?_ z0k (z04 _)) z0c))))) (z00 (z0w _ 2 rfl (z00 (z05 (e := 27) 1 ?_ z0k (z04 _)) (z00 (z05 (e := 27) 1 ?_ z0k (z04 _)) z0c))) z0c))))))) z0c)) ?_
  all_goals try (focus ((simp (disch := omega) only [go_sem, Nat.reduceBEq, z0a]); done))
  (try (simp (disch := omega) only [go_sem, Nat.reduceBEq])); repeat' (first | refine nxt ?_ | refine zqu (by (simp (disch := omega) only [go_sem]); rfl) rfl ?_ | (refine J _ ?_; clear J K))
  exact z1j rfl
theorem zx5 (u x : T) (hu : szB u = true) (hx : szB x = true) (cu : cntT u <= 1000000) (cx : cntT x <= 1000000) (du : depT u <= 1000000) (dx : depT x <= 1000000) (parent : Idv) (i : Int) :
  PC Tryz.prog 87 [z0h u, z19 parent, .int .i64 i, z0h x] (.tup [z0h (if z3d u parent i x ≠ 0 then T.zero else z1g parent (z7j i.toNat x) u), .int .i64 (z3d u parent i x)]) := by
 have c1 := pc_fits u x hu hx cu cx du dx parent i
 refine z14 3 (by simp only [pureD.pureL, z01, pureD, Bool.and_self]; rfl) (by simp only [pureD.pureL, z01, pureD, Bool.and_self]) (z10 [3000020, 3000021, 3000023, 5000024, 5000025] Tryz.func87 rfl (by decide +kernel) z0e (by decide +kernel) (by simp [Tryz.ntmps87]) ?_)
 show awp _ _ (Code.seq _ _) _ _
 rw [show Tryz.f87.results.toList = [.cell 8 27, .tmp 9] from rfl]
 by_cases hw : z3d u parent i x = 0
 ·obtain ⟨hr, hm, n, rfl, hn⟩ := zc3 hw
  have c2 := pc_put n x
  have c3 := zfw u hu parent (z7j n x) (g := 179) (cap := [.rptr (.int .i64 n), .rptr (z0h x)]) (by simp only [pureD.pureL, z01, pureD, Bool.and_self]) (fun q hq hid => zvi n x hx q (zaq u hu q hq) (hn q hq hid))
  rw [(show (atR parent (z7j n x) u).1 = z1g parent (z7j n x) u from by rw [zgw (z7j n x) ((z24 u).1 hr.1).2.2.2.1 hm])] at c3
  rw [hw] at c1 ⊢
  rw [if_neg (fun h => h rfl), Int.toNat_natCast]
  repeat' (first | refine nxt ?_ | ((first | refine zqh fun K J => ?_ | refine zqe (by decide +kernel) fun K J => ?_ | refine zqs (c1) ?_ | refine zqt (c2) ?_ | refine zqt (c3) ?_); (simp (disch := omega) only [go_sem, Nat.reduceBEq, Nat.reduceEqDiff, ↓reduceIte, Nat.reduceAdd, Nat.reduceLeDiff])) | ((refine zqd _ rfl (fun hc => ?_) (fun hc => ?_)) <;> (first | (cases hc; done) | ((try simp only [] at hc); (try (exfalso; omega))))) | refine zqu (by (simp (disch := omega) only [go_sem, Nat.reduceBEq, ↓reduceIte, Nat.reduceLeDiff]); rfl) rfl ?_ | (refine J _ ?_; clear J K))
  refine z07 ?_ (Le.refl _)
  simp only [pureD, pureD.pureL, z04, Bool.and_self]
 ·rw [if_pos hw]
  repeat' (first | refine nxt ?_ | ((first | refine zqh fun K J => ?_ | refine zqs (c1) ?_); (simp (disch := omega) only [go_sem, Nat.reduceBEq, ↓reduceIte, Nat.reduceAdd, Nat.reduceLeDiff])) | ((refine zqd _ rfl (fun hc => ?_) (fun hc => ?_)) <;> (((try simp only [z09] at hc); (try (exfalso; omega))))) | refine zqu (by (simp (disch := omega) only [go_sem, Nat.reduceBEq, ↓reduceIte, Nat.reduceAdd, Nat.reduceLeDiff]); rfl) rfl ?_ | (refine J _ ?_; clear J K))
  exact z07 rfl (Le.tup ⟨z0u, Le.refl _, trivial⟩)
end
section
open Abs Facts Tr
namespace Tr
theorem zi3 {u x : T} {parent : Idv} {n : Nat} (h1 : standsT u = true) (h2 : standsT x = true) (h3 : x.kind ≠ 0) (h4 : parent ∈ z0j u) (h5 : z1w (z06 parent u).1.kind x.kind = true) (h6 : n <= (z06 parent u).1.kids.length)
  (h7 : z3a (z06 parent u).1.kids x.kind x.label = false) (h8 : (z06 parent u).1.kids.length < 64) (h9 : (z78 parent u).length + 1 + depT x <= 8) (h10 : cntT u + cntT x <= 1024) (h11 : ∀ i ∈ z0j x, i ∉ z0j u) : z3d u parent n x = 0 := by
 unfold z3d
 rw [if_neg (by rw [h1, h2]; simp [h3]), if_neg (by rw [z32, decide_eq_true h4]; simp), if_neg (by rw [h5]; simp), if_neg (by omega), if_neg (by rw [h7]; simp), if_neg (by omega), if_neg]
 rw [List.any_eq_true]
 rintro ⟨i, hi, hf⟩
 rw [z32, decide_eq_true_eq] at hf
 exact h11 i hi hf
theorem zl7 {C : Ctx} {q : T} {id : Idv} (hq : q.id = id) (h : id ∉ z74 C) : (z78 id (z2r C q)).length = lenC C := by
 rw [zpy (hq ▸ z2x q) C h, zl6 hq, List.nil_append, zlg]
theorem z1k {t : T} (h : standsT t = true) : (z0j t).Nodup := ((z24 t).1 h).2.2.2.1
theorem zl8 {u x : T} {parent : Idv} {n : Nat} (h : z3d u parent n x = 0) : ∃ (C : Ctx) (q : T) (l r : List T), u = z2r C (q.setKids (l ++ r)) /\ l.length = n /\ q.id = parent /\ z1g parent (z7j n x) u = z2r C (q.setKids (l ++ x :: r)) /\
  standsT (z1g parent (z7j n x) u) = true /\ z0o x.id (z1g parent (z7j n x) u) = u /\ z06 x.id (z1g parent (z7j n x) u) = (x, true) /\ z59 x.id (z1g parent (z7j n x) u) = (parent, (n : Int), true) /\ ¬ (z1g parent (z7j n x) u).id = x.id /\
  (atR parent (z7j n x) u).1 = z1g parent (z7j n x) u /\ (∀ i ∈ z0j x, i ∉ z0j u) /\ cntT (z1g parent (z7j n x) u) = cntT u + cntT x := by
 obtain ⟨⟨h1, h2, h3, h4, h5, h7, h8, h9, h10, h11⟩, hm, n', hn, hle⟩ := zc3 h
 obtain rfl : n = n' := by omega
 have hdis : ∀ i ∈ z0j x, i ∉ z0j u := fun i hi hm => by
  have := List.any_eq_false.1 h11 i hi
  rw [z32, decide_eq_true hm] at this
  exact this rfl
 have hnd := z1k h1
 obtain ⟨C, e, hq, hpre, _⟩ := focus parent u hm
 have hqn := zc2 h4
 have O := hle _ hqn hq
 generalize hq0 : (z06 parent u).1 = q at *
 have e2 : q = q.setKids (q.kids.take n ++ q.kids.drop n) := by rw [List.take_append_drop, z7q]
 generalize hl : q.kids.take n = l at *
 generalize hr : q.kids.drop n = r at *
 have hln : l.length = n := by rw [<- hl, List.length_take]; omega
 have hkr : q.kids = l ++ r := by rw [<- hl, <- hr, List.take_append_drop]
 have hue : u = z2r C (q.setKids (l ++ r)) := e.trans (congrArg (z2r C) e2)
 have hxu := hdis x.id (z2x x)
 have hmx : x.id ∈ z0j (q.setKids (l ++ x :: r)) := by rw [z33]; exact List.mem_cons_of_mem _ (zfx.2 (.inr (.inl (z2x x))))
 rw [hue, z2u, z33, List.flatMap_append] at hxu
 simp only [List.mem_append, List.mem_cons, not_or] at hxu
 obtain ⟨k1, ⟨k2, k3, k4⟩, k5⟩ := hxu
 have hpost : parent ∉ z44 C := (z3l (x := q) (by rw [<- e]; exact hnd) (hq ▸ z2x q)).2
 have hed : z1g parent (z7j n x) u = z2r C (q.setKids (l ++ x :: r)) := by
  rw [e, z63 (z7j n x) hq C hpre hpost]
  rw [e2, <- hln, zrb]
  rfl
 have hst : standsT (z2r C (q.setKids (l ++ x :: r))) = true := by
  refine ztm (by rw [<- hue]; exact h1) h2 h3 h5 (by rw [<- hkr]; exact h7) (by rw [<- hkr]; exact h8) ?_ (by rw [<- hue]; exact h10) (by rw [<- hue]; exact hdis)
  have := zl7 hq hpre
  rw [<- e] at this
  omega
 rw [hed]
 refine ⟨C, q, l, r, hue, hln, hq, rfl, hst, ?_, ?_, ?_, ?_, ?_, hdis, ?_⟩
 ·rw [zcw (fun e => k2 e.symm) rfl k3 k4 C k1 k5, hue]
 ·rw [z9y hmx C k1, zjl (fun e => k2 e.symm) k3 (z2x x), z3f rfl]
 ·rw [zjm hmx (fun e => k2 e.symm) C k1, zpx (fun e => k2 e.symm) k3 rfl, hq, hln]
 ·intro hid
  cases C with
  | hole => exact k2 hid.symm
  | node t a c b => exact (z50 k1).1 hid
 ·rw [zgw (z7j n x) hnd hm, hed]
 ·rw [hue, z5x, z5x, zkb]; omega
theorem zfu {u : T} {id : Idv} (hs : standsT u = true) (h0 : ¬ u.id = id) (hm : id ∈ z0j u) : ∃ (under : Idv) (n : Nat) (x : T), z59 id u = (under, (n : Int), true) /\ z06 id u = (x, true) /\ x.id = id /\ standsT (z0o id u) = true /\ standsT x = true /\ x.kind ≠ 0 /\
  z3d (z0o id u) under n x = 0 /\ z1g under (z7j n x) (z0o id u) = u /\ (∀ i ∈ z0j x, i ∉ z0j (z0o id u)) /\ under ∈ z0j (z0o id u) /\ cntT (z0o id u) + cntT x = cntT u /\ (∀ i ∈ z0j u, i ∈ z0j x \/ i ∈ z0j (z0o id u)) := by
 obtain ⟨C, q, l, x, r, e, hx, hq, n1, n2, hf, hp⟩ := zpz h0 hm
 have hnd := z1k hs
 subst e
 have hxm : id ∈ z0j (q.setKids (l ++ x :: r)) := by rw [z33]; exact List.mem_cons_of_mem _ (zfx.2 (.inr (.inl (hx ▸ z2x x))))
 obtain ⟨k1, k2⟩ := z3l hnd hxm
 have ns := (zgv (ze7 hnd)).1 id (hx ▸ z2x x)
 have hw := zcw hq hx n2 ns.2.2 C k1 k2
 obtain ⟨d1, d2, d3, d4, d5, d6, d7, d8, d9⟩ := ztn hs
 rw [hw]
 have hnd2 := z1k d1
 have hqs : q.id ∈ z0j (q.setKids (l ++ r)) := by rw [z33]; exact List.mem_cons_self
 obtain ⟨m1, m2⟩ := z3l hnd2 hqs
 have hfq : z06 q.id (z2r C (q.setKids (l ++ r))) = (q.setKids (l ++ r), true) := by rw [z9y hqs C m1]; exact z3f rfl
 refine ⟨q.id, l.length, x, hp, hf, hx, d1, d2, d3, ?_, ?_, d9, zay C hqs, ?_, fun i hi => ?_⟩
 ·refine zi3 d1 d2 d3 (zay C hqs) (by rw [hfq]; exact d4) ?_ (by rw [hfq]; exact d5) (by rw [hfq]; exact d6) ?_ d8 d9
  ·rw [hfq]; show l.length <= (l ++ r).length; simp
  ·rw [zl7 (id := q.id) (q := q.setKids (l ++ r)) rfl m1]; exact d7
 ·rw [z63 (id := q.id) (z7j l.length x) (q := q.setKids (l ++ r)) rfl C m1 m2, zrb]
 ·rw [z5x, z5x, zkb]; omega
 ·rw [z2u, z33, List.flatMap_append, List.flatMap_cons] at hi
  rw [z2u, z33, List.flatMap_append]
  simp only [List.mem_append, List.mem_cons] at hi ⊢
  rcases hi with h | (h | h | h | h) | h
  ·exact .inr (.inl h)
  ·exact .inr (.inr (.inl (.inl h)))
  ·exact .inr (.inr (.inl (.inr (.inl h))))
  ·exact .inl h
  ·exact .inr (.inr (.inl (.inr (.inr h))))
  ·exact .inr (.inr (.inr h))
theorem zpr {id : Idv} {t : T} (h : id ∉ z0j t) : z0o id t = t := zxa t fun k O hm => h (by rw [z28]; exact List.mem_cons_of_mem _ (List.mem_flatMap.2 ⟨k, O, hm⟩))
theorem z8w (id : Idv) (t : T) : (z0o id t).id = t.id /\ (z0o id t).kind = t.kind /\ (z0o id t).label = t.label /\ (z0o id t).head = t.head /\ (z0o id t).words = t.words := by
 rw [z55]; exact ⟨rfl, rfl, rfl, rfl, rfl⟩
theorem z000 (id : Idv) : ∀ t : T, ∀ i ∈ z0j (z0o id t), i ∈ z0j t := by
 refine z4x fun t ih i hi => ?_
 rw [z55, z33, List.mem_cons, List.mem_flatMap] at hi
 rw [z28, List.mem_cons, List.mem_flatMap]
 rcases hi with h | ⟨k, O, h⟩
 ·exact .inl h
 ·obtain ⟨k', hk', rfl⟩ := List.mem_map.1 O
  exact .inr ⟨k', (List.mem_filter.1 hk').1, ih k' (List.mem_filter.1 hk').1 i h⟩
theorem z001 {k : Idv} {u : T} : ∀ i ∈ z0j (z06 k u).1, (z06 k u).2 = true -> i ∈ z0j u := fun i hi hf => by
 have hm : k ∈ z0j u := by rw [z32, decide_eq_true_eq] at hf; exact hf
 obtain ⟨C, e, _, _, _⟩ := focus k u hm
 rw [e]
 exact zay C hi
theorem zps {id : Idv} : ∀ u : T, depT (z0o id u) <= depT u := by
 have key : ∀ (l : List T) (g : T -> T) (p : T -> Bool), (∀ k ∈ l, depT (g k) <= depT k) -> zeg (((l.filter p).map g).map depT) <= zeg (l.map depT) := by
  intro l g p h
  induction l with
  | nil => simp
  | cons k l ih =>
   have h1 := h k (by simp)
   have h2 := ih fun k O => h k (List.mem_cons_of_mem _ O)
   rw [List.filter_cons, List.map_cons, zca]
   split
   ·rw [List.map_cons, List.map_cons, zca]; omega
   ·omega
 refine z4x fun u ih => ?_
 rw [z55, z4r, z4r u]
 exact key u.kids (z0o id) (z4w id) ih
theorem zpt (id : Idv) (u : T) : depT (z06 id u).1 <= depT u := by
 by_cases h : id ∈ z0j u
 ·obtain ⟨C, e, _⟩ := focus id u h
  conv => rhs; rw [e]
  rw [z8y]; omega
 ·rw [zfy h, show depT T.zero = 0 from by decide +kernel]; omega
theorem zv5 {id k : Idv} : ∀ u : T, (z0j u).Nodup -> ¬ u.id = id -> k ∈ z0j u -> (∀ y, z06 id u = (y, true) -> k ∉ z0j y) -> z06 k (z0o id u) = (z0o id (z06 k u).1, true) := by
 refine z4x fun u ih hn h0 O hy => ?_
 by_cases hid : id ∉ z0j u
 ·rw [zpr hid]
  have hf : (z06 k u).2 = true := by rw [z32, decide_eq_true O]
  have := zpr (id := id) (t := (z06 k u).1) fun hm => hid (z001 id hm hf)
  rw [this, <- hf]
 rw [Classical.not_not] at hid
 by_cases hku : u.id = k
 ·rw [z3f hku]
  exact z3f (by rw [(z8w id u).1]; exact hku)
 ·obtain ⟨i, hi, h1, h2, h3⟩ := zme hku (za8.2 O)
  have hkm := za8.1 h2
  rw [z5l h3 h2]
  obtain ⟨g1, g2, g3⟩ := ze2 hn
  have hki := List.getElem_mem hi
  have hkeep : ¬ u.kids[i].id = id := fun e => by
   refine hy u.kids[i] ?_ hkm
   have hw : z2i id u.kids[i] = [u.kids[i]] := z8d e
   have hne : z2i id u.kids[i] ≠ [] := by rw [hw]; simp
   rw [z5l (z6h h0 hi (fun j hj h => (z9a id _).2 (g3 i j hi h (by omega) id (e ▸ z2x _))) hne) hne]
   exact z3f e
  have hin := ih _ hki (g2 _ hki) hkeep hkm (fun y hf => hy y (by
   have hne : z2i id u.kids[i] ≠ [] := zas.1 (by rw [hf])
   rw [z5l (z6h h0 hi (fun j hj h => (z9a id _).2 (g3 i j hi h (by omega) id (za8.1 hne))) hne) hne]
   exact hf))
  have hsp : u.kids = u.kids.take i ++ u.kids[i] :: u.kids.drop (i + 1) := by rw [<- List.drop_eq_getElem_cons hi, List.take_append_drop]
  have hwk : k ∈ z0j (z0o id u.kids[i]) := by
   have : (z06 k (z0o id u.kids[i])).2 = true := by rw [hin]
   rw [z32, decide_eq_true_eq] at this; exact this
  rw [z55]
  have e : (u.kids.filter (z4w id)).map (z0o id) = ((u.kids.take i).filter (z4w id)).map (z0o id) ++ z0o id u.kids[i] :: ((u.kids.drop (i + 1)).filter (z4w id)).map (z0o id) := by
   conv => lhs; rw [hsp]
   rw [List.filter_append, List.filter_cons, if_pos (zgu hkeep), List.map_append, List.map_cons]
  rw [e, zjl hku ?_ hwk, hin]
  intro hm
  obtain ⟨y, hym, hyk⟩ := List.mem_flatMap.1 hm
  obtain ⟨y', hy', rfl⟩ := List.mem_map.1 hym
  have hmem := (List.mem_filter.1 hy').1
  obtain ⟨j, hj, rfl⟩ := List.getElem_of_mem hmem
  rw [List.length_take] at hj
  have := z000 id _ k hyk
  rw [List.getElem_take] at this
  exact g3 i j hi (by omega) (by omega) k hkm this
end Tr
end
section
open Abs Facts Tr
attribute [local irreducible] awp
theorem zs3 (u : T) (hu : szB u = true) (cu : cntT u <= 1000000) (du : depT u <= 1000000) : PC Tryz.prog 127 [.rptr (z0h u)] (.bool (!standsT u)) := by
 have c1 := z8n u hu (by omega) (by omega)
 refine z14 1 (by simp only [pureD.pureL, z01, pureD, Bool.and_self]) rfl (z10 [] Tryz.func127 rfl (by decide +kernel) z0e (by decide +kernel) (by simp [Tryz.ntmps127]) ?_)
 show awp _ _ (Code.seq _ _) _ _
 repeat' (first | ((first | refine zqh fun K J => ?_ | refine zqs (c1) ?_); (simp (disch := omega) only [go_sem, Nat.reduceBEq, ↓reduceIte, Nat.reduceAdd])) | refine nxt ?_ | refine zqu (by (simp (disch := omega) only [go_sem]); rfl) rfl ?_ | (refine J _ ?_; clear J K))
 exact z03 rfl
theorem zs4 (u : T) (hu : szB u = true) (cu : cntT u <= 1000000) (du : depT u <= 1000000) (id : Idv) : PC Tryz.prog 128 [.rptr (z0h u), .rptr (z19 id)] (.bool (!(z06 id u).2)) := by
 have c1 := zmk u (z8h u hu) (by omega) id
 refine z14 1 (by simp only [pureD.pureL, z01, pureD]; rfl) rfl (z10 [] Tryz.func128 rfl (by decide +kernel) z0e (by decide +kernel) (by simp [Tryz.ntmps128]) ?_)
 show awp _ _ (Code.seq _ _) _ _
 repeat' (first | ((first | refine zqh fun K J => ?_ | refine zqs (c1) ?_); (simp (disch := omega) only [go_sem, Nat.reduceBEq, ↓reduceIte, Nat.reduceAdd])) | refine nxt ?_ | refine zqu (by (simp (disch := omega) only [go_sem]); rfl) rfl ?_ | (refine J _ ?_; clear J K))
 exact z03 rfl
theorem zs5 (u : T) (id : Idv) : PC Tryz.prog 130 [.rptr (z0h u), .rptr (z19 id)] (.bool (decide (u.id = id))) := by
 refine z14 1 (by simp only [pureD.pureL, z01, pureD]; rfl) rfl (z10 [] Tryz.func130 rfl (by decide +kernel) z0e (by decide +kernel) (by simp [Tryz.ntmps130]) ?_)
 show awp _ _ (Code.seq _ _) _ _
 repeat' (first | ((refine zqh fun K J => ?_); (simp (disch := omega) only [go_sem, Nat.reduceBEq, ↓reduceIte, reduceCtorEq, Nat.reduceAdd, Nat.reduceLeDiff])) | refine nxt ?_ | refine zqu (by (simp (disch := omega) only [go_sem]); rfl) rfl ?_ | (refine J _ ?_; clear J K))
 exact z03 rfl
theorem zs6 (u : T) (id : Idv) (f1 f2 f3 : FuncId) (c1 c2 c3 : List D) : z8m [(f1, c1, 1, !standsT u), (f2, c2, 4, !(z06 id u).2), (f3, c3, 9, decide (u.id = id))] = z5k u id := by
 unfold z5k
 cases h1 : standsT u
 ·rw [if_pos rfl]; rfl
 rw [if_neg (by simp), Bool.not_true, z4l]
 cases h2 : (z06 id u).2
 ·rw [if_pos rfl]; rfl
 rw [if_neg (by simp), Bool.not_true, z4l]
 by_cases h3 : u.id = id
 ·rw [if_pos h3, decide_eq_true h3]; rfl
 ·rw [if_neg h3, decide_eq_false h3]; rfl
theorem zuk {u : T} {id : Idv} (h : z5k u id = 0) : standsT u = true /\ id ∈ z0j u /\ ¬ u.id = id := by
 unfold z5k at h
 split at h
 ·cases h
 rename_i h1
 split at h
 ·cases h
 rename_i h2
 split at h
 ·cases h
 rename_i h3
 rw [Bool.not_eq_false] at h1 h2
 rw [z32, decide_eq_true_eq] at h2
 exact ⟨h1, h2, h3⟩
theorem zfl (u : T) (hu : szB u = true) (du : depT u <= 1000000) (id : Idv) (hs : standsT u = true) (hm : id ∈ z0j u) (h0 : ¬ u.id = id) : PC Tryz.prog 131 [z0h u, z19 id] (z0h (z0o id u)) := by
 obtain ⟨i, hi, _, hw, q, hq, O, hqn⟩ := at_wipe (z1k hs) h0 hm
 have h := zsl u hu (by omega) id i hi (fun q' hq' hid => by
  have := z8b (z1k hs) hq' hid
  rw [this] at hq
  simp only [Prod.mk.injEq, and_true] at hq
  rw [hq]; exact O)
 rw [hw] at h; exact h
theorem zul (u : T) (hu : szB u = true) (cu : cntT u <= 1000000) (du : depT u <= 1000000) (id : Idv) :
  PC Tryz.prog 89 [z0h u, z19 id] (.tup [z0h (if z5k u id = 0 then z0o id u else T.zero), z0h (if z5k u id = 0 then (z06 id u).1 else T.zero), .int .i64 (z5k u id)]) := by
 have c3 := z7a u (z8h u hu) (by omega) id
 have c4 := zb8 [(127, [.rptr (z0h u)], 1, !standsT u), (128, [.rptr (z0h u), .rptr (z19 id)], 4, !(z06 id u).2), (130, [.rptr (z0h u), .rptr (z19 id)], 9, decide (u.id = id))]
  (by simp) (by
   intro c hc
   simp only [List.mem_cons, List.not_mem_nil, or_false] at hc
   rcases hc with rfl | rfl | rfl
   ·exact ⟨by simp only [pureD.pureL, z01, pureD, Bool.and_self], zs3 u hu cu du⟩
   ·exact ⟨by simp only [pureD.pureL, z01, pureD]; rfl, zs4 u hu cu du id⟩
   ·exact ⟨by simp only [pureD.pureL, z01, pureD]; rfl, zs5 u id⟩)
 rw [zs6] at c4
 refine z14 3 (by simp only [pureD.pureL, z01]; rfl) (by simp only [pureD.pureL, z01, pureD, Bool.and_self]) (z10 [3000029, 3000030, 5000031, 5000033, 600032, 900004, 600004, 900002, 600005, 900003] Tryz.func89 rfl (by decide +kernel) z0e (by decide +kernel) (by simp [Tryz.ntmps89]) ?_)
 show awp _ _ (Code.seq _ _) _ _
 rw [show Tryz.f89.results.toList = [.cell 4 27, .cell 5 27, .tmp 6] from rfl]
 by_cases ht : z5k u id = 0
 ·obtain ⟨h1, h2, h3⟩ := zuk ht
  rw [ht] at c4
  rw [ht, if_pos rfl, if_pos rfl]
  have c5 := zfl u hu du id h1 h2 h3
  have c6 := ze5 (z06 id u).1 (z4p id u hu)
  repeat' (first | ((refine zqh fun K J => ?_); (simp (disch := omega) only [go_sem, Nat.reduceBEq, ↓reduceIte, reduceCtorEq, Nat.reduceAdd, Nat.reduceMul, Nat.reduceLeDiff])) | (refine J _ ?_; clear J K))
  refine z0x (PC.borrow c4 rfl 6 (z00 (z36 5 rfl (z00 (z0w _ 2 rfl (z00 (z05 (e := 27) 1 ?_ z0k (z04 _)) z0c)) (z00 (z0w _ 2 rfl (z00 (z05 (e := 27) 1 ?_ z0k (z04 _)) (z00 (z05 (e := 23) 1 ?_ z1n rfl) z0c))) (z00 (z0w _ 2 rfl (z00 (z05 (e := 27) 1 ?_ z0k (z04 _)) (z00 (z05 (e := 23) 1 ?_ z1n rfl) z0c))) z0c)))) z0c)) ?_
  all_goals try (focus ((simp (disch := omega) only [go_sem, Nat.reduceBEq, z0a]); done))
  (try (simp (disch := omega) only [go_sem, Nat.reduceBEq])); repeat' (first | refine nxt ?_ | ((first | refine zqh fun K J => ?_ | refine zqe (by decide +kernel) fun K J => ?_ | refine zqs (c3) ?_ | refine zqt (c5) ?_ | refine zqt (c6) ?_); (simp (disch := omega) only [go_sem, Nat.reduceBEq, Nat.reduceEqDiff, ↓reduceIte, Nat.reduceAdd, Nat.reduceLeDiff])) | ((refine zqd _ rfl (fun hc => ?_) (fun hc => ?_)) <;> (first | (cases hc; done) | ((try simp only [] at hc); (try (exfalso; omega))))) | refine zqu (by (simp (disch := omega) only [go_sem, Nat.reduceBEq, ↓reduceIte, Nat.reduceLeDiff]); rfl) rfl ?_ | (refine J _ ?_; clear J K))
  refine z07 ?_ (Le.refl _)
  simp only [pureD, pureD.pureL, z04, Bool.and_self]
 ·rw [if_neg ht, if_neg ht]
  repeat' (first | ((refine zqh fun K J => ?_); (simp (disch := omega) only [go_sem, Nat.reduceBEq, ↓reduceIte, reduceCtorEq, Nat.reduceAdd, Nat.reduceMul, Nat.reduceLeDiff])) | (refine J _ ?_; clear J K))
  refine z0x (PC.borrow c4 rfl 6 (z00 (z36 5 rfl (z00 (z0w _ 2 rfl (z00 (z05 (e := 27) 1 ?_ z0k (z04 _)) z0c)) (z00 (z0w _ 2 rfl (z00 (z05 (e := 27) 1 ?_ z0k (z04 _)) (z00 (z05 (e := 23) 1 ?_ z1n rfl) z0c))) (z00 (z0w _ 2 rfl (z00 (z05 (e := 27) 1 ?_ z0k (z04 _)) (z00 (z05 (e := 23) 1 ?_ z1n rfl) z0c))) z0c)))) z0c)) ?_
  all_goals try (focus ((simp (disch := omega) only [go_sem, Nat.reduceBEq, z0a]); done))
  (try (simp (disch := omega) only [go_sem, Nat.reduceBEq])); repeat' (first | refine nxt ?_ | ((refine zqh fun K J => ?_); (simp (disch := omega) only [go_sem, Nat.reduceBEq, ↓reduceIte, Nat.reduceAdd, Nat.reduceLeDiff])) | ((refine zqd _ rfl (fun hc => ?_) (fun hc => ?_)) <;> (((try simp only [z09] at hc); (try (exfalso; omega))))) | refine zqu (by (simp (disch := omega) only [go_sem, Nat.reduceBEq, ↓reduceIte, Nat.reduceAdd, Nat.reduceLeDiff]); rfl) rfl ?_ | (refine J _ ?_; clear J K))
  exact z07 rfl (Le.tup ⟨z0u, z0u, Le.refl _, trivial⟩)
namespace Tr
def T.setLabel (t : T) (s : ByteArray) : T := .mk t.id t.kind s t.head t.words t.kids
def T.setWords (t : T) (l : List Wd) : T := .mk t.id t.kind t.label t.head l t.kids
def T.setHead (t : T) (l : List Wd) : T := .mk t.id t.kind t.label l t.words t.kids
def z5n (u : T) (id : Idv) (name : ByteArray) : Bool := decide ((z06 id u).1.label = name) || ((z59 id u).2.2 && z3a (z06 (z59 id u).1 u).1.kids (z06 id u).1.kind name)
def zbu (u : T) (id : Idv) (name : ByteArray) : Int :=
 if standsT u = false \/ z4e name = false then 1 else
 if (z06 id u).2 = false then 4 else
 if (z06 id u).1.kind = 0 then 9 else
 if z5n u id name = true then 10 else 0
theorem zsw {id : Idv} {f g : T -> T} : ∀ u : T, (∀ q ∈ z0m u, q.id = id -> f q = g q) -> z1g id f u = z1g id g u := by
 refine z4x fun u ih h => ?_
 rw [z7y, z7y]
 split
 ·exact h u (z20 u) ‹_›
 ·rw [List.map_congr_left fun k O => ih k O fun q hq => h q (z2n O hq)]
theorem zge {u x : T} {id : Idv} {f : T -> T} (hn : (z0j u).Nodup) (hm : id ∈ z0j u) (hx : x = f (z06 id u).1) (hid : x.id = id) (hf : ∀ q : T, (f q).setKids q.kids = f q) : z1g x.id (fun q => x.setKids q.kids) u = z1g id f u := by
 rw [hid]
 refine zsw u fun q hq hqi => ?_
 have := z8b hn hq hqi
 rw [hx, this]
 exact hf q
theorem zsx {u : T} {id : Idv} {name : ByteArray} (hs : standsT u = true) (hm : id ∈ z0j u) (hl : ¬ (z06 id u).1.label = name) (hp : (z59 id u).2.2 = true) :
  zmu (z06 (z59 id u).1 u).1.kids (z06 id u).1.kind name id false = z3a (z06 (z59 id u).1 u).1.kids (z06 id u).1.kind name := by
 unfold zmu z3a
 rw [Bool.eq_iff_iff, List.any_eq_true, List.any_eq_true]
 simp only [Bool.and_eq_true, decide_eq_true_eq, Bool.false_or]
 constructor
 ·rintro ⟨k, O, h1, h2, _⟩; exact ⟨k, O, h1, h2⟩
 ·rintro ⟨k, O, h1, h2⟩
  refine ⟨k, O, h1, h2, fun e => ?_⟩
  have hkn : k ∈ z0m u := by
   by_cases hf : (z06 (z59 id u).1 u).2 = true
   ·have h3 := zc2 hf
    have : k ∈ z0m (z06 (z59 id u).1 u).1 := z2n O (z20 k)
    have sub : ∀ u x : T, x ∈ z0m u -> ∀ y ∈ z0m x, y ∈ z0m u := by
     refine fun u => z4x (p := fun u => ∀ x : T, x ∈ z0m u -> ∀ y ∈ z0m x, y ∈ z0m u) (fun u ih x hx y hy => ?_) u
     rw [z25, List.mem_cons] at hx
     rcases hx with rfl | hx
     ·exact hy
     ·obtain ⟨k, O, hxk⟩ := List.mem_flatMap.1 hx
      exact z2n O (ih k O x hxk y hy)
    exact sub u _ h3 k this
   ·rw [Bool.not_eq_true, z32, decide_eq_false_iff_not] at hf
    rw [zfy hf] at O
    cases O
  have := z8b (z1k hs) hkn e
  rw [this] at hl
  exact hl h2
end Tr
theorem zo2 (u : T) (hu : szB u = true) (cu : cntT u <= 1000000) (du : depT u <= 1000000) (x : T) (id : Idv) (name : ByteArray) : PC Tryz.prog 114 [.rptr (z0h u), .rptr (z19 id), .rptr (z0h x), .rptr (.str name)] (.bool (decide (x.label = name) || ((z59 id u).2.2 && z3a (z06 (z59 id u).1 u).1.kids x.kind name))) := by
 have hp := z4p (z59 id u).1 u hu
 have c1 := zn3 u (z8h u hu) (by omega) id
 have c2 := z7a u (z8h u hu) (by omega) (z59 id u).1
 have c3 := zk5 (z06 (z59 id u).1 u).1.kids (z9c hp).1 x.kind name
 refine z14 1 (by simp only [pureD.pureL, z01, pureD, Bool.and_self]; rfl) rfl (z10 [] Tryz.func114 rfl (by decide +kernel) z0e (by decide +kernel) (by simp [Tryz.ntmps114]) ?_)
 show awp _ _ (Code.seq _ _) _ _
 repeat' (first | ((first | refine zqh fun K J => ?_ | refine zqs (c1) ?_ | refine zqs (c2) ?_ | refine zqs (c3) ?_); (simp (disch := omega) only [go_sem, Nat.reduceBEq, ↓reduceIte, reduceCtorEq, Nat.reduceAdd, Nat.reduceLeDiff])) | refine nxt ?_ | refine zqu (by (simp (disch := omega) only [go_sem]); rfl) rfl ?_ | (refine J _ ?_; clear J K) | (refine zqf (fun hb => ?_) (fun hb => ?_) <;> (have hb2 := hb; try simp only [z09] at hb2) <;> ((first | have F : (_ : Bool) = _ := hb2 | have F := eq_false hb2 | have F := eq_true hb2); (simp (disch := omega) only [go_sem, Nat.reduceBEq, ↓reduceIte, reduceCtorEq, Nat.reduceAdd, hb, F, z0r]); clear hb F; (try (exfalso; omega)))))
 all_goals exact z03 (by simp [*])
theorem zo3 (ok : Bool) : PC Tryz.prog 118 [.rptr (.bool ok)] (.bool (!ok)) := by
 refine z14 1 (by simp only [pureD.pureL, pureD, Bool.and_self]) rfl (z10 [] Tryz.func118 rfl (by decide +kernel) z0e (by decide +kernel) (by simp [Tryz.ntmps118]) ?_)
 show awp _ _ (Code.seq _ _) _ _
 repeat' (first | ((refine zqh fun K J => ?_); (simp (disch := omega) only [go_sem, Nat.reduceBEq, ↓reduceIte, Nat.reduceAdd])) | refine nxt ?_ | refine zqu (by (simp (disch := omega) only [go_sem]); rfl) rfl ?_ | (refine J _ ?_; clear J K))
 exact z03 rfl
theorem zo4 (x : T) : PC Tryz.prog 119 [.rptr (z0h x)] (.bool (decide (x.kind = 0))) := by
 refine z14 1 (by simp only [pureD.pureL, z01, pureD, Bool.and_self]) rfl (z10 [] Tryz.func119 rfl (by decide +kernel) z0e (by decide +kernel) (by simp [Tryz.ntmps119]) ?_)
 show awp _ _ (Code.seq _ _) _ _
 repeat' (first | ((refine zqh fun K J => ?_); (simp (disch := omega) only [go_sem, Nat.reduceBEq, ↓reduceIte, reduceCtorEq, Nat.reduceAdd])) | refine nxt ?_ | refine zqu (by (simp (disch := omega) only [go_sem]); rfl) rfl ?_ | (refine J _ ?_; clear J K))
 exact z03 rfl
theorem zo5 (q : T) (name : ByteArray) : PC Tryz.prog 121 [z0h q, .rptr (.str name)] (z0h (q.setLabel name)) := by
 refine z14 1 (by simp only [pureD.pureL, z01, pureD, Bool.and_self]) (z01 _) (z10 [] Tryz.func121 rfl (by decide +kernel) z0e (by decide +kernel) (by simp [Tryz.ntmps121]) ?_)
 show awp _ _ (Code.seq _ _) _ _
 rw [show Tryz.f121.results.toList = [.cell 3 27] from rfl]
 rw [show z0h q = .agg _ from by rw [z0h, z0l]]
 repeat' (first | ((refine zqh fun K J => ?_); (simp (disch := omega) only [go_sem, Nat.reduceBEq, ↓reduceIte, reduceCtorEq, Nat.reduceAdd, Nat.reduceLeDiff, Nat.reduceLT, List.set_cons_succ, List.set_cons_zero])) | refine nxt ?_ | refine zqu (by (simp (disch := omega) only [go_sem, Nat.reduceBEq, ↓reduceIte, Nat.reduceAdd, Nat.reduceLeDiff]); rfl) rfl ?_ | (refine J _ ?_; clear J K))
 rw [z0h, z0l]
 exact z07 (by simp only [pureD, pureD.pureL, z0i, z3k, Bool.and_self]) (Le.refl _)
theorem zw0 (ok : Bool) (x : T) (b : Bool) (f1 f2 f3 : FuncId) (c1 c2 c3 : List D) : z8m [(f1, c1, 4, !ok), (f2, c2, 9, decide (x.kind = 0)), (f3, c3, 10, b)] = (if ok = false then 4 else if x.kind = 0 then 9 else if b = true then 10 else 0) := by
 cases ok
 ·rw [if_pos rfl]; rfl
 rw [if_neg (by simp), Bool.not_true, z4l]
 by_cases h : x.kind = 0
 ·rw [if_pos h, decide_eq_true h]; rfl
 rw [if_neg h, decide_eq_false h, z4l]
 cases b
 ·rw [if_neg (by simp)]; rfl
 ·rw [if_pos rfl]; rfl
theorem zsy (u : T) (hu : szB u = true) (cu : cntT u <= 1000000) (du : depT u <= 1000000) (id : Idv) (name : ByteArray) (hn : name.size <= 1000000) :
  PC Tryz.prog 85 [z0h u, z19 id, .str name] (.tup [z0h (if zbu u id name = 0 then z1g id (fun q => q.setLabel name) u else T.zero), .int .i64 (zbu u id name)]) := by
 have c1 := z8n u hu (by omega) (by omega)
 have c2 := zd8 name (by unfold maxLen; omega)
 have c3 := z7a u (z8h u hu) (by omega) id
 have c4 := zb8 [(118, [.rptr (.bool (z06 id u).2)], 4, !(z06 id u).2), (119, [.rptr (z0h (z06 id u).1)], 9, decide ((z06 id u).1.kind = 0)), (114, [.rptr (z0h u), .rptr (z19 id), .rptr (z0h (z06 id u).1), .rptr (.str name)], 10, z5n u id name)]
  (by simp) (by
   intro c hc
   simp only [List.mem_cons, List.not_mem_nil, or_false] at hc
   rcases hc with rfl | rfl | rfl
   ·exact ⟨rfl, zo3 _⟩
   ·exact ⟨by simp only [pureD.pureL, z01, pureD, Bool.and_self], zo4 _⟩
   ·exact ⟨by simp only [pureD.pureL, z01, pureD, Bool.and_self]; rfl, zo2 u hu cu du _ id name⟩)
 rw [zw0] at c4
 refine z14 3 (by simp only [pureD.pureL, z01, pureD, Bool.and_self]; rfl) (by simp only [pureD.pureL, z01, pureD, Bool.and_self]) (z10 [] Tryz.func85 rfl (by decide +kernel) z0e (by decide +kernel) (by simp [Tryz.ntmps85]) ?_)
 show awp _ _ (Code.seq _ _) _ _
 rw [show Tryz.f85.results.toList = [.cell 6 27, .tmp 7] from rfl]
 by_cases h1 : standsT u = false
 ·rw [show zbu u id name = 1 from by unfold zbu; rw [if_pos (.inl h1)], if_neg (by decide)]
  rw [h1] at c1
  repeat' (first | refine nxt ?_ | ((first | refine zqh fun K J => ?_ | refine zqs (c1) ?_); (simp (disch := omega) only [go_sem, Nat.reduceBEq, ↓reduceIte, Nat.reduceAdd, Nat.reduceLeDiff])) | ((refine zqd _ rfl (fun hc => ?_) (fun hc => ?_)) <;> (first | (cases hc; done) | ((try simp only [] at hc); (try (exfalso; omega))))) | refine zqu (by (simp (disch := omega) only [go_sem, Nat.reduceBEq, ↓reduceIte, Nat.reduceAdd, Nat.reduceLeDiff]); rfl) rfl ?_ | (refine J _ ?_; clear J K))
  exact z07 rfl (Le.tup ⟨z0u, Le.refl _, trivial⟩)
 by_cases h2 : z4e name = false
 ·rw [show zbu u id name = 1 from by unfold zbu; rw [if_pos (.inr h2)], if_neg (by decide)]
  rw [Bool.not_eq_false] at h1
  rw [h1] at c1
  rw [h2] at c2
  repeat' (first | refine nxt ?_ | ((first | refine zqh fun K J => ?_ | refine zqs (c1) ?_ | refine zqs (c2) ?_); (simp (disch := omega) only [go_sem, Nat.reduceBEq, ↓reduceIte, Nat.reduceAdd, Nat.reduceLeDiff])) | ((refine zqd _ rfl (fun hc => ?_) (fun hc => ?_)) <;> (first | (cases hc; done) | ((try simp only [] at hc); (try (exfalso; omega))))) | refine zqu (by (simp (disch := omega) only [go_sem, Nat.reduceBEq, ↓reduceIte, Nat.reduceAdd, Nat.reduceLeDiff]); rfl) rfl ?_ | (refine J _ ?_; clear J K))
  exact z07 rfl (Le.tup ⟨z0u, Le.refl _, trivial⟩)
 have e0 : zbu u id name = (if (z06 id u).2 = false then 4 else if (z06 id u).1.kind = 0 then 9 else if z5n u id name = true then 10 else 0) := by unfold zbu; rw [if_neg (by rw [not_or]; exact ⟨h1, h2⟩)]
 rw [<- e0] at c4
 rw [Bool.not_eq_false] at h1 h2
 rw [h1] at c1
 rw [h2] at c2
 by_cases hw : zbu u id name = 0
 ·have hmf : (z06 id u).2 = true := by
   rw [e0] at hw
   by_cases h : (z06 id u).2 = false
   ·rw [if_pos h] at hw; cases hw
   ·simpa using h
  have hm : id ∈ z0j u := by rw [z32, decide_eq_true_eq] at hmf; exact hmf
  have c5 := zfw u hu id (fun q => q.setLabel name) (g := 121) (cap := [.rptr (.str name)]) rfl (fun q _ _ => zo5 q name)
  rw [(show (atR id (fun q => q.setLabel name) u).1 = z1g id (fun q => q.setLabel name) u from by rw [zgw _ (z1k h1) hm])] at c5
  rw [hw] at c4 ⊢
  rw [if_pos rfl]
  repeat' (first | refine nxt ?_ | ((first | refine z1r (N := 5) rfl fun K J => ?_ | refine zqs (c1) ?_ | refine zqs (c2) ?_ | refine zqs (c3) ?_); (simp (disch := omega) only [go_sem, Nat.reduceBEq, ↓reduceIte, Nat.reduceAdd, Nat.reduceLeDiff, Nat.reduceLT])) | ((refine zqd _ rfl (fun hc => ?_) (fun hc => ?_)) <;> (first | (cases hc; done) | ((try simp only [] at hc); (try (exfalso; omega))))) | (refine J _ ?_; clear J K))
  refine z1i fun K J => ?_
  (simp (disch := omega) only [go_sem, Nat.reduceBEq, ↓reduceIte, reduceCtorEq, Nat.reduceAdd, Nat.reduceMul, Nat.reduceLeDiff])
  refine z0x (PC.borrow c4 rfl 6 (z00 (z36 5 rfl (z00 (z0w _ 2 rfl (z00 (z1d (e := 4) 2 ?_ zfm (z02 1 rfl)) z0c)) (z00 (z0w _ 2 rfl (z00 (z05 (e := 27) 1 ?_ z0k (z04 _)) z0c)) (z00 (z0w _ 2 rfl (z00 (z05 (e := 27) 1 ?_ z0k (z04 _)) (z00 (z05 (e := 23) 1 ?_ z1n rfl) (z00 (z05 (e := 27) 1 ?_ z0k (z04 _)) (z00 (z1d (e := 9) 2 ?_ z8t (z02 1 rfl)) z0c))))) z0c)))) z0c)) ?_
  all_goals try (focus ((simp (disch := omega) only [go_sem, Nat.reduceBEq, z0a]); done))
  (simp (disch := omega) only [go_sem, Nat.reduceBEq])
  refine J _ _ (zpw (b := 2) (j := 5) (e := 9) (cs := [.str name]) (d := .str name) (by (simp (disch := omega) only [go_sem, Nat.reduceBEq])) (.inl rfl) rfl (by (simp (disch := omega) only [go_sem, Nat.reduceBEq]))) ?_
  clear J K
  repeat' (first | refine nxt ?_ | ((first | refine zqh fun K J => ?_ | refine zqs (c5) ?_); (simp (disch := omega) only [go_sem, Nat.reduceBEq, ↓reduceIte, Nat.reduceAdd, Nat.reduceLeDiff])) | ((refine zqd _ rfl (fun hc => ?_) (fun hc => ?_)) <;> (first | (cases hc; done) | ((try simp only [] at hc); (try (exfalso; omega))))) | refine zqu (by (simp (disch := omega) only [go_sem, Nat.reduceBEq, ↓reduceIte, Nat.reduceLeDiff]); rfl) rfl ?_ | (refine J _ ?_; clear J K))
  refine z07 ?_ (Le.refl _)
  simp only [pureD, pureD.pureL, z04, Bool.and_self]
 ·rw [if_neg hw]
  repeat' (first | refine nxt ?_ | ((first | refine zqh fun K J => ?_ | refine zqs (c1) ?_ | refine zqs (c2) ?_ | refine zqs (c3) ?_); (simp (disch := omega) only [go_sem, Nat.reduceBEq, ↓reduceIte, reduceCtorEq, Nat.reduceAdd, Nat.reduceMul, Nat.reduceLeDiff, Nat.reduceLT])) | ((refine zqd _ rfl (fun hc => ?_) (fun hc => ?_)) <;> (first | (cases hc; done) | ((try simp only [] at hc); (try (exfalso; omega))))) | (refine J _ ?_; clear J K))
  refine z0x (PC.borrow c4 rfl 6 (z00 (z36 5 rfl (z00 (z0w _ 2 rfl (z00 (z1d (e := 4) 2 ?_ zfm (z02 1 rfl)) z0c)) (z00 (z0w _ 2 rfl (z00 (z05 (e := 27) 1 ?_ z0k (z04 _)) z0c)) (z00 (z0w _ 2 rfl (z00 (z05 (e := 27) 1 ?_ z0k (z04 _)) (z00 (z05 (e := 23) 1 ?_ z1n rfl) (z00 (z05 (e := 27) 1 ?_ z0k (z04 _)) (z00 (z1d (e := 9) 2 ?_ z8t (z02 1 rfl)) z0c))))) z0c)))) z0c)) ?_
  all_goals try (focus ((simp (disch := omega) only [go_sem, Nat.reduceBEq, z0a]); done))
  (try (simp (disch := omega) only [go_sem, Nat.reduceBEq])); repeat' (first | refine nxt ?_ | ((refine zqh fun K J => ?_); (simp (disch := omega) only [go_sem, Nat.reduceBEq, ↓reduceIte, Nat.reduceAdd, Nat.reduceLeDiff])) | ((refine zqd _ rfl (fun hc => ?_) (fun hc => ?_)) <;> (((try simp only [z09] at hc); (try (exfalso; omega))))) | refine zqu (by (simp (disch := omega) only [go_sem, Nat.reduceBEq, ↓reduceIte, Nat.reduceAdd, Nat.reduceLeDiff]); rfl) rfl ?_ | (refine J _ ?_; clear J K))
  exact z07 rfl (Le.tup ⟨z0u, Le.refl _, trivial⟩)
theorem zo6 (u : T) (hu : szB u = true) (cu : cntT u <= 1000000) (du : depT u <= 1000000) (id : Idv) (name : ByteArray) (hn : name.size <= 1000000) :
  PC Tryz.prog 95 [z0h u, z19 id, .str name] (.tup [z0h (if zbu u id name = 0 then z1g id (fun q => q.setLabel name) u else T.zero), .int .i64 (zbu u id name)]) := by
 have hp := z4p (z59 id u).1 u hu
 have c1 := z5q u hu (by omega) (by omega)
 have c2 := zre name (by unfold maxLen; omega)
 have c3 := z48 id u hu
 have c4 := zsf id u hu
 have c5 := z48 (z59 id u).1 u hu
 have c6 := zh0 (z06 (z59 id u).1 u).1.kids (z9c hp).1 (z06 id u).1.kind name id false
 refine z14 3 (by simp only [pureD.pureL, z01, pureD, Bool.and_self]; rfl) (by simp only [pureD.pureL, z01, pureD, Bool.and_self]) (z10 [] Tryz.func95 rfl (by decide +kernel) z0e (by decide +kernel) (by simp [Tryz.ntmps95]) ?_)
 show awp _ _ (Code.seq _ _) _ _
 rw [show Tryz.f95.results.toList = [.cell 6 27, .tmp 7] from rfl]
 by_cases h1 : standsT u = false
 ·rw [show zbu u id name = 1 from by unfold zbu; rw [if_pos (.inl h1)], if_neg (by decide)]
  rw [h1] at c1
  repeat' (first | refine nxt ?_ | ((first | refine zqh fun K J => ?_ | refine zqs (c1) ?_); (simp (disch := omega) only [go_sem, Nat.reduceBEq, ↓reduceIte, Nat.reduceAdd, Nat.reduceLeDiff])) | ((refine zqd _ rfl (fun hc => ?_) (fun hc => ?_)) <;> (first | (cases hc; done) | ((try simp only [] at hc); (try (exfalso; omega))))) | refine zqu (by (simp (disch := omega) only [go_sem, Nat.reduceBEq, ↓reduceIte, Nat.reduceAdd, Nat.reduceLeDiff]); rfl) rfl ?_ | (refine J _ ?_; clear J K))
  exact z07 rfl (Le.tup ⟨z0u, Le.refl _, trivial⟩)
 by_cases h2 : z4e name = false
 ·rw [show zbu u id name = 1 from by unfold zbu; rw [if_pos (.inr h2)], if_neg (by decide)]
  rw [Bool.not_eq_false] at h1
  rw [h1] at c1
  rw [h2] at c2
  repeat' (first | refine nxt ?_ | ((first | refine zqh fun K J => ?_ | refine zqs (c1) ?_ | refine zqs (c2) ?_); (simp (disch := omega) only [go_sem, Nat.reduceBEq, ↓reduceIte, Nat.reduceAdd, Nat.reduceLeDiff])) | ((refine zqd _ rfl (fun hc => ?_) (fun hc => ?_)) <;> (first | (cases hc; done) | ((try simp only [] at hc); (try (exfalso; omega))))) | refine zqu (by (simp (disch := omega) only [go_sem, Nat.reduceBEq, ↓reduceIte, Nat.reduceAdd, Nat.reduceLeDiff]); rfl) rfl ?_ | (refine J _ ?_; clear J K))
  exact z07 rfl (Le.tup ⟨z0u, Le.refl _, trivial⟩)
 have e0 : zbu u id name = (if (z06 id u).2 = false then 4 else if (z06 id u).1.kind = 0 then 9 else if z5n u id name = true then 10 else 0) := by unfold zbu; rw [if_neg (by rw [not_or]; exact ⟨h1, h2⟩)]
 rw [Bool.not_eq_false] at h1 h2
 rw [h1] at c1
 rw [h2] at c2
 by_cases h3 : (z06 id u).2 = false
 ·rw [show zbu u id name = 4 from by rw [e0, if_pos h3], if_neg (by decide)]
  rw [h3] at c3
  repeat' (first | refine nxt ?_ | ((first | refine zqh fun K J => ?_ | refine zqs (c1) ?_ | refine zqs (c2) ?_ | refine zqs (c3) ?_); (simp (disch := omega) only [go_sem, Nat.reduceBEq, ↓reduceIte, Nat.reduceAdd, Nat.reduceLeDiff])) | ((refine zqd _ rfl (fun hc => ?_) (fun hc => ?_)) <;> (first | (cases hc; done) | ((try simp only [] at hc); (try (exfalso; omega))))) | refine zqu (by (simp (disch := omega) only [go_sem, Nat.reduceBEq, ↓reduceIte, Nat.reduceAdd, Nat.reduceLeDiff]); rfl) rfl ?_ | (refine J _ ?_; clear J K))
  exact z07 rfl (Le.tup ⟨z0u, Le.refl _, trivial⟩)
 rw [if_neg h3] at e0
 rw [Bool.not_eq_false] at h3
 rw [h3] at c3
 have hm : id ∈ z0j u := by rw [z32, decide_eq_true_eq] at h3; exact h3
 by_cases h4 : (z06 id u).1.kind = 0
 ·rw [show zbu u id name = 9 from by rw [e0, if_pos h4], if_neg (by decide)]
  have h4d : decide ((z06 id u).1.kind = 0) = true := decide_eq_true h4
  repeat' (first | refine nxt ?_ | ((first | refine zqh fun K J => ?_ | refine zqs (c1) ?_ | refine zqs (c2) ?_ | refine zqs (c3) ?_); (simp (disch := omega) only [go_sem, Nat.reduceBEq, ↓reduceIte, reduceCtorEq, Nat.reduceAdd, Nat.reduceLeDiff, h4d])) | ((refine zqd _ rfl (fun hc => ?_) (fun hc => ?_)) <;> (first | (cases hc; done) | ((try simp only [] at hc); (try (exfalso; omega))))) | refine zqu (by (simp (disch := omega) only [go_sem, Nat.reduceBEq, ↓reduceIte, Nat.reduceAdd, Nat.reduceLeDiff]); rfl) rfl ?_ | (refine J _ ?_; clear J K))
  exact z07 rfl (Le.tup ⟨z0u, Le.refl _, trivial⟩)
 rw [if_neg h4] at e0
 have h4d : decide ((z06 id u).1.kind = 0) = false := decide_eq_false h4
 by_cases h5 : (z06 id u).1.label = name
 ·rw [show zbu u id name = 10 from by rw [e0, if_pos (by unfold z5n; rw [decide_eq_true h5]; rfl)], if_neg (by decide)]
  have h5d : decide ((z06 id u).1.label = name) = true := decide_eq_true h5
  repeat' (first | refine nxt ?_ | ((first | refine zqh fun K J => ?_ | refine zqs (c1) ?_ | refine zqs (c2) ?_ | refine zqs (c3) ?_); (simp (disch := omega) only [go_sem, Nat.reduceBEq, ↓reduceIte, reduceCtorEq, Nat.reduceAdd, Nat.reduceLeDiff, h4d, h5d])) | ((refine zqd _ rfl (fun hc => ?_) (fun hc => ?_)) <;> (first | (cases hc; done) | ((try simp only [] at hc); (try (exfalso; omega))))) | refine zqu (by (simp (disch := omega) only [go_sem, Nat.reduceBEq, ↓reduceIte, Nat.reduceAdd, Nat.reduceLeDiff]); rfl) rfl ?_ | (refine J _ ?_; clear J K))
  exact z07 rfl (Le.tup ⟨z0u, Le.refl _, trivial⟩)
 have h5d : decide ((z06 id u).1.label = name) = false := decide_eq_false h5
 have eb : z5n u id name = ((z59 id u).2.2 && z3a (z06 (z59 id u).1 u).1.kids (z06 id u).1.kind name) := by unfold z5n; rw [h5d, Bool.false_or]
 have hfin : z5n u id name = false -> z1g ((z06 id u).1.setLabel name).id (fun q => ((z06 id u).1.setLabel name).setKids q.kids) u = z1g id (fun q => q.setLabel name) u := fun _ => by
  obtain ⟨_, _, hfi, _, _⟩ := focus id u hm
  exact zge (f := fun q => q.setLabel name) (z1k h1) hm rfl hfi (fun q => rfl)
 have hx := z4p id u hu
 have c7 := zoy ((z06 id u).1.setLabel name) u hu
 rw [show z0h ((z06 id u).1.setLabel name) = .agg _ from by rw [z0h, z0l]] at c7
 cases hpar : (z59 id u).2.2
 ·have e1 : z5n u id name = false := by rw [eb, hpar]; rfl
  rw [show zbu u id name = 0 from by rw [e0, if_neg (by rw [e1]; simp)], if_pos rfl]
  rw [hfin e1] at c7
  rw [hpar] at c4
  rw [show z0h (z06 id u).1 = .agg _ from by rw [z0h, z0l]] at c3
  repeat' (first | refine nxt ?_ | ((first | refine zqh fun K J => ?_ | refine zqs (c1) ?_ | refine zqs (c2) ?_ | refine zqs (c3) ?_ | refine zqs (c4) ?_ | refine zqs (c7) ?_); (simp (disch := omega) only [go_sem, Nat.reduceBEq, ↓reduceIte, reduceCtorEq, Nat.reduceAdd, Nat.reduceLeDiff, Nat.reduceLT, h4d, h5d, List.set_cons_succ, List.set_cons_zero])) | ((refine zqd _ rfl (fun hc => ?_) (fun hc => ?_)) <;> (first | (cases hc; done) | ((try simp only [] at hc); (try (exfalso; omega))))) | refine zqu (by (simp (disch := omega) only [go_sem, Nat.reduceBEq, ↓reduceIte, Nat.reduceLeDiff]); rfl) rfl ?_ | (refine J _ ?_; clear J K))
  refine z07 ?_ (Le.refl _)
  simp only [pureD, pureD.pureL, z04, Bool.and_self]
 ·rw [hpar] at c4 eb
  rw [Bool.true_and] at eb
  rw [zsx h1 hm h5 hpar, <- eb] at c6
  cases e1 : z5n u id name
  ·rw [show zbu u id name = 0 from by rw [e0, if_neg (by rw [e1]; simp)], if_pos rfl]
   rw [hfin e1] at c7
   rw [e1] at c6
   rw [show z0h (z06 id u).1 = .agg _ from by rw [z0h, z0l]] at c3
   repeat' (first | refine nxt ?_ | ((first | refine zqh fun K J => ?_ | refine zqs (c1) ?_ | refine zqs (c2) ?_ | refine zqs (c3) ?_ | refine zqs (c4) ?_ | refine zqs (c5) ?_ | refine zqs (c6) ?_ | refine zqs (c7) ?_); (simp (disch := omega) only [go_sem, Nat.reduceBEq, ↓reduceIte, reduceCtorEq, Nat.reduceAdd, Nat.reduceLeDiff, Nat.reduceLT, z0r, h4d, h5d, List.set_cons_succ, List.set_cons_zero])) | ((refine zqd _ rfl (fun hc => ?_) (fun hc => ?_)) <;> (first | (cases hc; done) | ((try simp only [] at hc); (try (exfalso; omega))))) | refine zqu (by (simp (disch := omega) only [go_sem, Nat.reduceBEq, ↓reduceIte, Nat.reduceLeDiff]); rfl) rfl ?_ | (refine J _ ?_; clear J K))
   refine z07 ?_ (Le.refl _)
   simp only [pureD, pureD.pureL, z04, Bool.and_self]
  ·rw [show zbu u id name = 10 from by rw [e0, if_pos e1], if_neg (by decide)]
   rw [e1] at c6
   repeat' (first | refine nxt ?_ | ((first | refine zqh fun K J => ?_ | refine zqs (c1) ?_ | refine zqs (c2) ?_ | refine zqs (c3) ?_ | refine zqs (c4) ?_ | refine zqs (c5) ?_ | refine zqs (c6) ?_); (simp (disch := omega) only [go_sem, Nat.reduceBEq, ↓reduceIte, reduceCtorEq, Nat.reduceAdd, Nat.reduceLeDiff, z0r, h4d, h5d])) | ((refine zqd _ rfl (fun hc => ?_) (fun hc => ?_)) <;> (first | (cases hc; done) | ((try simp only [] at hc); (try (exfalso; omega))))) | refine zqu (by (simp (disch := omega) only [go_sem, Nat.reduceBEq, ↓reduceIte, Nat.reduceAdd, Nat.reduceLeDiff]); rfl) rfl ?_ | (refine J _ ?_; clear J K))
   exact z07 rfl (Le.tup ⟨z0u, Le.refl _, trivial⟩)
namespace Tr
def zz7 (l : List Wd) : Bool := l.any fun w => !z6k w.text
def z2y (u : T) (id : Idv) (l : List Wd) : Int :=
 if standsT u = false \/ zz7 l = true then 1 else
 if (z06 id u).2 = false then 4 else
 if (z06 id u).1.kind = 0 then 9 else
 if 256 < l.length then 6 else 0
theorem zk8 {u : T} {id : Idv} {l : List Wd} (h : z2y u id l = 0) : standsT u = true /\ id ∈ z0j u /\ zz7 l = false /\ ¬ (z06 id u).1.kind = 0 /\ l.length <= 256 := by
 unfold z2y at h
 split at h
 ·cases h
 rename_i h1
 split at h
 ·cases h
 rename_i h2
 split at h
 ·cases h
 rename_i h3
 split at h
 ·cases h
 rename_i h4
 rw [not_or, Bool.not_eq_false, Bool.not_eq_true] at h1
 rw [Bool.not_eq_false, z32, decide_eq_true_eq] at h2
 exact ⟨h1.1, h2, h1.2, h3, by omega⟩
end Tr
theorem zxc (w : Wd) (hw : w.text.size <= maxLen) : PC Tryz.prog 157 [z7i w] (.bool (!z6k w.text)) := by
 have c1 := zio true [w.text] (by unfold maxLen; simp) (by intro s hs; simp at hs; subst hs; exact hw)
 rw [show zxh [w.text] = z6k w.text from by unfold zxh; simp] at c1
 refine z14 1 rfl rfl (z10 [] Tryz.func157 rfl (by decide +kernel) z0e (by decide +kernel) (by simp [Tryz.ntmps157]) ?_)
 show awp _ _ (Code.seq _ _) _ _
 repeat' (first | ((first | refine zqh fun K J => ?_ | refine zqs (c1) ?_); (simp (disch := omega) only [go_sem, Nat.reduceBEq, ↓reduceIte, reduceCtorEq, Nat.reduceAdd, Nat.reduceLeDiff])) | refine nxt ?_ | refine zqu (by (simp (disch := omega) only [go_sem]); rfl) rfl ?_ | (refine J _ ?_; clear J K))
 exact z03 rfl
theorem zxd (u : T) (hu : szB u = true) (cu : cntT u <= 1000000) (du : depT u <= 1000000) (l : List Wd) (hl : l.length <= 1000000) (hw : ∀ w ∈ l, w.text.size <= maxLen) : PC Tryz.prog 158 [.rptr (z0h u), .rptr (z0n l), .rptr (.fn 157 [])] (.bool (!standsT u || zz7 l)) := by
 have c1 := z8n u hu (by omega) (by omega)
 have c2 := z6a false l (by unfold maxLen; omega) (g := 157) (cap := []) (fun w => !z6k w.text) rfl (fun w h => zxc w (hw w h))
 refine z14 1 (by simp only [pureD.pureL, z01, z0i, pureD, Bool.and_self]) rfl (z10 [] Tryz.func158 rfl (by decide +kernel) z0e (by decide +kernel) (by simp [Tryz.ntmps158]) ?_)
 show awp _ _ (Code.seq _ _) _ _
 repeat' (first | ((first | refine zqh fun K J => ?_ | refine zqs (c1) ?_ | refine zqs (c2) ?_); (simp (disch := omega) only [go_sem, Nat.reduceBEq, ↓reduceIte, Nat.reduceAdd, z0n])) | refine nxt ?_ | refine zqu (by (simp (disch := omega) only [go_sem]); rfl) rfl ?_ | (refine J _ ?_; clear J K) | (refine zqf (fun hb => ?_) (fun hb => ?_) <;> (have hb2 := hb; try simp only [z09] at hb2) <;> ((have F : (_ : Bool) = _ := hb2); (simp (disch := omega) only [go_sem, Nat.reduceBEq, ↓reduceIte, Nat.reduceAdd, F]); clear hb F; (try (exfalso; omega)))))
 all_goals exact z03 (by simp [hb2, zz7])
theorem zxe (ok : Bool) : PC Tryz.prog 159 [.rptr (.bool ok)] (.bool (!ok)) := by
 refine z14 1 (by simp only [pureD.pureL, pureD, Bool.and_self]) rfl (z10 [] Tryz.func159 rfl (by decide +kernel) z0e (by decide +kernel) (by simp [Tryz.ntmps159]) ?_)
 show awp _ _ (Code.seq _ _) _ _
 repeat' (first | ((refine zqh fun K J => ?_); (simp (disch := omega) only [go_sem, Nat.reduceBEq, ↓reduceIte, Nat.reduceAdd])) | refine nxt ?_ | refine zqu (by (simp (disch := omega) only [go_sem]); rfl) rfl ?_ | (refine J _ ?_; clear J K))
 exact z03 rfl
theorem zxf (x : T) : PC Tryz.prog 160 [.rptr (z0h x)] (.bool (decide (x.kind = 0))) := by
 refine z14 1 (by simp only [pureD.pureL, z01, pureD, Bool.and_self]) rfl (z10 [] Tryz.func160 rfl (by decide +kernel) z0e (by decide +kernel) (by simp [Tryz.ntmps160]) ?_)
 show awp _ _ (Code.seq _ _) _ _
 repeat' (first | ((refine zqh fun K J => ?_); (simp (disch := omega) only [go_sem, Nat.reduceBEq, ↓reduceIte, reduceCtorEq, Nat.reduceAdd])) | refine nxt ?_ | refine zqu (by (simp (disch := omega) only [go_sem]); rfl) rfl ?_ | (refine J _ ?_; clear J K))
 exact z03 rfl
theorem zxg (l : List Wd) : PC Tryz.prog 161 [.rptr (z0n l)] (.bool (decide (256 < l.length))) := by
 refine z14 1 (by simp only [pureD.pureL, z0i, pureD, Bool.and_self]) rfl (z10 [] Tryz.func161 rfl (by decide +kernel) z0e (by decide +kernel) (by simp [Tryz.ntmps161]) ?_)
 show awp _ _ (Code.seq _ _) _ _
 repeat' (first | ((refine zqh fun K J => ?_); (simp (disch := omega) only [go_sem, Nat.reduceBEq, ↓reduceIte, Nat.reduceAdd, z0n])) | refine nxt ?_ | refine zqu (by (simp (disch := omega) only [go_sem]); rfl) rfl ?_ | (refine J _ ?_; clear J K))
 exact z03 (decide_eq_decide.2 (by omega))
theorem zor (u : T) (id : Idv) (l : List Wd) (f1 f2 f3 f4 : FuncId) (c1 c2 c3 c4 : List D) : z8m [(f1, c1, 1, !standsT u || zz7 l), (f2, c2, 4, !(z06 id u).2), (f3, c3, 9, decide ((z06 id u).1.kind = 0)), (f4, c4, 6, decide (256 < l.length))] = z2y u id l := by
 unfold z2y
 cases h1 : standsT u
 ·rw [if_pos (.inl rfl)]; rfl
 by_cases h2 : zz7 l = true
 ·rw [if_pos (.inr h2), h2]; rfl
 rw [Bool.not_eq_true] at h2
 rw [h2]
 rw [if_neg (by simp)]
 cases h3 : (z06 id u).2
 ·rw [if_pos rfl]; rfl
 rw [if_neg (by simp)]
 by_cases h4 : (z06 id u).1.kind = 0
 ·rw [if_pos h4, decide_eq_true h4]; rfl
 rw [if_neg h4, decide_eq_false h4]
 by_cases h5 : 256 < l.length
 ·rw [if_pos h5, decide_eq_true h5]; rfl
 ·rw [if_neg h5, decide_eq_false h5]; rfl
theorem zrc (u : T) (hu : szB u = true) (cu : cntT u <= 1000000) (du : depT u <= 1000000) (id : Idv) (l : List Wd) (hl : l.length <= 1000000) (hw : ∀ w ∈ l, w.text.size <= maxLen) (f : T -> T) {g : FuncId} {cp : List D} (hc : pureD.pureL cp = true)
  (hg : ∀ q : T, PC Tryz.prog g (z0h q :: cp) (z0h (f q))) :
  PC Tryz.prog 109 [z0h u, z19 id, z0n l, .fn g cp] (.tup [z0h (if z2y u id l = 0 then z1g id f u else T.zero), .int .i64 (z2y u id l)]) := by
 have c3 := z7a u (z8h u hu) (by omega) id
 have c4 := zb8 [(158, [.rptr (z0h u), .rptr (z0n l), .rptr (.fn 157 [])], 1, !standsT u || zz7 l), (159, [.rptr (.bool (z06 id u).2)], 4, !(z06 id u).2), (160, [.rptr (z0h (z06 id u).1)], 9, decide ((z06 id u).1.kind = 0)), (161, [.rptr (z0n l)], 6, decide (256 < l.length))]
  (by simp) (by
   intro c hc
   simp only [List.mem_cons, List.not_mem_nil, or_false] at hc
   rcases hc with rfl | rfl | rfl | rfl
   ·exact ⟨by simp only [pureD.pureL, z01, z0i, pureD, Bool.and_self], zxd u hu cu du l hl hw⟩
   ·exact ⟨rfl, zxe _⟩
   ·exact ⟨by simp only [pureD.pureL, z01, pureD, Bool.and_self], zxf _⟩
   ·exact ⟨by simp only [pureD.pureL, z0i, pureD, Bool.and_self], zxg l⟩)
 rw [zor] at c4
 refine z14 3 (by simp only [pureD.pureL, z01, z0i, pureD, hc, Bool.and_self]; rfl) (by simp only [pureD.pureL, z01, pureD, Bool.and_self]) (z10 [] Tryz.func109 rfl (by decide +kernel) z0e (by decide +kernel) (by simp [Tryz.ntmps109]) ?_)
 show awp _ _ (Code.seq _ _) _ _
 rw [show Tryz.f109.results.toList = [.cell 8 27, .tmp 9] from rfl]
 by_cases ht : z2y u id l = 0
 ·obtain ⟨h1, hm, _, _, _⟩ := zk8 ht
  have c5 := zfw u hu id f hc (fun q _ _ => hg q)
  rw [(show (atR id f u).1 = z1g id f u from by rw [zgw _ (z1k h1) hm])] at c5
  rw [ht] at c4 ⊢
  rw [if_pos rfl]
  repeat' (first | ((first | refine zqh fun K J => ?_ | refine zqs (c3) ?_); (simp (disch := omega) only [go_sem, Nat.reduceBEq, ↓reduceIte, reduceCtorEq, Nat.reduceAdd, Nat.reduceMul, Nat.reduceLeDiff, Nat.reduceLT])) | (refine J _ ?_; clear J K))
  refine z0x (PC.borrow c4 rfl 6 (z00 (z36 5 rfl (z00 (z0w _ 2 rfl (z00 (z05 (e := 27) 1 ?_ z0k (z04 _)) (z00 (z1d (e := 24) 2 ?_ zf9 (z02 1 (z0i _))) (z00 (z1d (e := 137) 2 ?_ zkz (z02 1 rfl)) z0c)))) (z00 (z0w _ 2 rfl (z00 (z1d (e := 4) 2 ?_ zfm (z02 1 rfl)) z0c)) (z00 (z0w _ 2 rfl (z00 (z05 (e := 27) 1 ?_ z0k (z04 _)) z0c)) (z00 (z0w _ 2 rfl (z00 (z1d (e := 24) 2 ?_ zf9 (z02 1 (z0i _))) z0c)) z0c))))) z0c)) ?_
  all_goals try (focus ((simp (disch := omega) only [go_sem, Nat.reduceBEq]); done))
  (try (simp (disch := omega) only [go_sem, Nat.reduceBEq])); repeat' (first | refine nxt ?_ | ((first | refine zqh fun K J => ?_ | refine zqs (c5) ?_); (simp (disch := omega) only [go_sem, Nat.reduceBEq, ↓reduceIte, Nat.reduceAdd, Nat.reduceLeDiff])) | ((refine zqd _ rfl (fun hc => ?_) (fun hc => ?_)) <;> (first | (cases hc; done) | ((try simp only [] at hc); (try (exfalso; omega))))) | refine zqu (by (simp (disch := omega) only [go_sem, Nat.reduceBEq, ↓reduceIte, Nat.reduceLeDiff]); rfl) rfl ?_ | (refine J _ ?_; clear J K))
  refine z07 ?_ (Le.refl _)
  simp only [pureD, pureD.pureL, z04, Bool.and_self]
 ·rw [if_neg ht]
  repeat' (first | ((first | refine zqh fun K J => ?_ | refine zqs (c3) ?_); (simp (disch := omega) only [go_sem, Nat.reduceBEq, ↓reduceIte, reduceCtorEq, Nat.reduceAdd, Nat.reduceMul, Nat.reduceLeDiff, Nat.reduceLT])) | (refine J _ ?_; clear J K))
  refine z0x (PC.borrow c4 rfl 6 (z00 (z36 5 rfl (z00 (z0w _ 2 rfl (z00 (z05 (e := 27) 1 ?_ z0k (z04 _)) (z00 (z1d (e := 24) 2 ?_ zf9 (z02 1 (z0i _))) (z00 (z1d (e := 137) 2 ?_ zkz (z02 1 rfl)) z0c)))) (z00 (z0w _ 2 rfl (z00 (z1d (e := 4) 2 ?_ zfm (z02 1 rfl)) z0c)) (z00 (z0w _ 2 rfl (z00 (z05 (e := 27) 1 ?_ z0k (z04 _)) z0c)) (z00 (z0w _ 2 rfl (z00 (z1d (e := 24) 2 ?_ zf9 (z02 1 (z0i _))) z0c)) z0c))))) z0c)) ?_
  all_goals try (focus ((simp (disch := omega) only [go_sem, Nat.reduceBEq]); done))
  (try (simp (disch := omega) only [go_sem, Nat.reduceBEq])); repeat' (first | refine nxt ?_ | ((refine zqh fun K J => ?_); (simp (disch := omega) only [go_sem, Nat.reduceBEq, ↓reduceIte, Nat.reduceAdd, Nat.reduceLeDiff])) | ((refine zqd _ rfl (fun hc => ?_) (fun hc => ?_)) <;> (((try simp only [z09] at hc); (try (exfalso; omega))))) | refine zqu (by (simp (disch := omega) only [go_sem, Nat.reduceBEq, ↓reduceIte, Nat.reduceAdd, Nat.reduceLeDiff]); rfl) rfl ?_ | (refine J _ ?_; clear J K))
  exact z07 rfl (Le.tup ⟨z0u, Le.refl _, trivial⟩)
theorem zmm (q : T) (l : List Wd) (hl : l.length <= 1000000) : PC Tryz.prog 110 [z0h q, .rptr (z0n l)] (z0h (q.setWords l)) := by
 have c1 := z8k l hl
 refine z14 5 (by simp only [pureD.pureL, z01, z0i, pureD, Bool.and_self]) (z01 _) (z10 [] Tryz.func110 rfl (by decide +kernel) z0e (by decide +kernel) (by simp [Tryz.ntmps110]) ?_)
 show awp _ _ (Code.seq _ _) _ _
 rw [show Tryz.f110.results.toList = [.cell 3 27] from rfl]
 rw [show z0h q = .agg _ from by rw [z0h, z0l]]
 repeat' (first | ((first | refine zqh fun K J => ?_ | refine z7o (c1) ?_); (simp (disch := omega) only [go_sem, Nat.reduceBEq, ↓reduceIte, reduceCtorEq, Nat.reduceAdd, Nat.reduceLeDiff, Nat.reduceLT, z0n, zmh, List.set_cons_succ, List.set_cons_zero])) | refine nxt ?_ | refine zqu (by (simp (disch := omega) only [go_sem, Nat.reduceBEq, ↓reduceIte, Nat.reduceAdd, Nat.reduceLeDiff]); rfl) rfl ?_ | (refine J _ ?_; clear J K))
 rw [z0h, z0l]
 refine z3h (z4z 4 (by simp only [pureD.pureL, pureD, Bool.and_false, Bool.false_and]) (z00 (z02 3 rfl) (z00 (z02 3 rfl) (z00 (z02 3 rfl) (z00 (z02 3 rfl) (z00 (z02 3 rfl) (z00 (z02 3 (z0i _)) (z00 (z16 (f := z11) (l := l) 2 rfl ?_ z5v z83 (fun _ => rfl) (fun _ => rfl)) (z00 (z02 3 (z3k _)) z0c)))))))))
 (simp (disch := omega) only [go_sem, Nat.reduceBEq])
theorem zos (u : T) (hu : szB u = true) (cu : cntT u <= 1000000) (du : depT u <= 1000000) (id : Idv) (l : List Wd) (hl : l.length <= 1000000) (hw : ∀ w ∈ l, w.text.size <= maxLen) :
  PC Tryz.prog 82 [z0h u, z19 id, z0n l] (.tup [z0h (if z2y u id l = 0 then z1g id (fun q => q.setWords l) u else T.zero), .int .i64 (z2y u id l)]) := by
 have c1 := zrc u hu cu du id l hl hw (fun q => q.setWords l) (g := 110) (cp := [.rptr (z0n l)]) (by simp only [pureD.pureL, z0i, pureD, Bool.and_self]) (fun q => zmm q l hl)
 refine z14 3 (by simp only [pureD.pureL, z01, z0i, Bool.and_self]; rfl) (by simp only [pureD.pureL, z01, pureD, Bool.and_self]) (z10 [] Tryz.func82 rfl (by decide +kernel) z0e (by decide +kernel) (by simp [Tryz.ntmps82]) ?_)
 show awp _ _ (Code.seq _ _) _ _
 rw [show Tryz.f82.results.toList = [.cell 6 27, .tmp 7] from rfl]
 refine z1i fun K J => ?_
 (simp (disch := omega) only [go_sem, Nat.reduceBEq, Nat.reduceAdd])
 refine J _ _ (zpw (b := 2) (j := 5) (e := 24) (cs := [z0n l]) (d := z0n l) (by (simp (disch := omega) only [go_sem, Nat.reduceBEq, Nat.reduceAdd])) (.inl rfl) (z0i _) (by (simp (disch := omega) only [go_sem, Nat.reduceBEq, Nat.reduceAdd]))) ?_
 clear J K
 repeat' (first | ((first | refine zqh fun K J => ?_ | refine zqs (c1) ?_); (simp (disch := omega) only [go_sem, Nat.reduceBEq, ↓reduceIte, Nat.reduceAdd, Nat.reduceLeDiff, z0n])) | refine nxt ?_ | refine zqu (by (simp (disch := omega) only [go_sem, Nat.reduceBEq, ↓reduceIte, Nat.reduceLeDiff]); rfl) rfl ?_ | (refine J _ ?_; clear J K))
 refine z07 ?_ (Le.refl _)
 simp only [pureD, pureD.pureL, z04, Bool.and_self]
theorem zhu (q : T) (l : List Wd) (hl : l.length <= 1000000) : PC Tryz.prog 112 [z0h q, .rptr (z0n l)] (z0h (q.setHead l)) := by
 have c1 := z8k l hl
 refine z14 5 (by simp only [pureD.pureL, z01, z0i, pureD, Bool.and_self]) (z01 _) (z10 [] Tryz.func112 rfl (by decide +kernel) z0e (by decide +kernel) (by simp [Tryz.ntmps112]) ?_)
 show awp _ _ (Code.seq _ _) _ _
 rw [show Tryz.f112.results.toList = [.cell 3 27] from rfl]
 rw [show z0h q = .agg _ from by rw [z0h, z0l]]
 repeat' (first | ((first | refine zqh fun K J => ?_ | refine z7o (c1) ?_); (simp (disch := omega) only [go_sem, Nat.reduceBEq, ↓reduceIte, reduceCtorEq, Nat.reduceAdd, Nat.reduceLeDiff, Nat.reduceLT, z0n, zmh, List.set_cons_succ, List.set_cons_zero])) | refine nxt ?_ | refine zqu (by (simp (disch := omega) only [go_sem, Nat.reduceBEq, ↓reduceIte, Nat.reduceAdd, Nat.reduceLeDiff]); rfl) rfl ?_ | (refine J _ ?_; clear J K))
 rw [z0h, z0l]
 refine z3h (z4z 4 (by simp only [pureD.pureL, pureD, Bool.and_false, Bool.false_and]) (z00 (z02 3 rfl) (z00 (z02 3 rfl) (z00 (z02 3 rfl) (z00 (z02 3 rfl) (z00 (z02 3 rfl) (z00 (z16 (f := z11) (l := l) 2 rfl ?_ z5v z83 (fun _ => rfl) (fun _ => rfl)) (z00 (z02 3 (z0i _)) (z00 (z02 3 (z3k _)) z0c)))))))))
 (simp (disch := omega) only [go_sem, Nat.reduceBEq])
theorem zk9 (u : T) (hu : szB u = true) (cu : cntT u <= 1000000) (du : depT u <= 1000000) (id : Idv) (l : List Wd) (hl : l.length <= 1000000) (hw : ∀ w ∈ l, w.text.size <= maxLen) :
  PC Tryz.prog 84 [z0h u, z19 id, z0n l] (.tup [z0h (if z2y u id l = 0 then z1g id (fun q => q.setHead l) u else T.zero), .int .i64 (z2y u id l)]) := by
 have c1 := zrc u hu cu du id l hl hw (fun q => q.setHead l) (g := 112) (cp := [.rptr (z0n l)]) (by simp only [pureD.pureL, z0i, pureD, Bool.and_self]) (fun q => zhu q l hl)
 refine z14 3 (by simp only [pureD.pureL, z01, z0i, Bool.and_self]; rfl) (by simp only [pureD.pureL, z01, pureD, Bool.and_self]) (z10 [] Tryz.func84 rfl (by decide +kernel) z0e (by decide +kernel) (by simp [Tryz.ntmps84]) ?_)
 show awp _ _ (Code.seq _ _) _ _
 rw [show Tryz.f84.results.toList = [.cell 6 27, .tmp 7] from rfl]
 refine z1i fun K J => ?_
 (simp (disch := omega) only [go_sem, Nat.reduceBEq, Nat.reduceAdd])
 refine J _ _ (zpw (b := 2) (j := 5) (e := 24) (cs := [z0n l]) (d := z0n l) (by (simp (disch := omega) only [go_sem, Nat.reduceBEq, Nat.reduceAdd])) (.inl rfl) (z0i _) (by (simp (disch := omega) only [go_sem, Nat.reduceBEq, Nat.reduceAdd]))) ?_
 clear J K
 repeat' (first | ((first | refine zqh fun K J => ?_ | refine zqs (c1) ?_); (simp (disch := omega) only [go_sem, Nat.reduceBEq, ↓reduceIte, Nat.reduceAdd, Nat.reduceLeDiff, z0n])) | refine nxt ?_ | refine zqu (by (simp (disch := omega) only [go_sem, Nat.reduceBEq, ↓reduceIte, Nat.reduceLeDiff]); rfl) rfl ?_ | (refine J _ ?_; clear J K))
 refine z07 ?_ (Le.refl _)
 simp only [pureD, pureD.pureL, z04, Bool.and_self]
namespace Tr
end Tr
namespace Tr
end Tr
namespace Tr
end Tr
theorem zls (u : T) (hu : szB u = true) (cu : cntT u <= 1000000) (du : depT u <= 1000000) (id : Idv) (l : List Wd) (hl : l.length <= 1000000) (hw : ∀ w ∈ l, w.text.size <= maxLen) (head : Bool) :
  PC Tryz.prog 93 [z0h u, z19 id, z0n l, .bool head] (.tup [z0h (if z2y u id l = 0 then z1g id (fun q => if head = true then q.setHead l else q.setWords l) u else T.zero), .int .i64 (z2y u id l)]) := by
 have c1 := z5q u hu (by omega) (by omega)
 have c2 := fun (i : Nat) (h : i < l.length) => zxj l[i].text (hw _ (List.getElem_mem h))
 have c3 := z48 id u hu
 have hx := z4p id u hu
 refine z14 3 (by simp only [pureD.pureL, z01, z0i, pureD, Bool.and_self]; rfl) (by simp only [pureD.pureL, z01, pureD, Bool.and_self]) (z10 [1000049, 1000051, 1000053, 1000055] Tryz.func93 rfl (by decide +kernel) z0e (by decide +kernel) (by simp [Tryz.ntmps93]) ?_)
 show awp _ _ (Code.seq _ _) _ _
 rw [show Tryz.f93.results.toList = [.cell 8 27, .tmp 9] from rfl]
 by_cases h1 : standsT u = false
 ·rw [show z2y u id l = 1 from by unfold z2y; rw [if_pos (.inl h1)], if_neg (by decide)]
  rw [h1] at c1
  repeat' (first | refine nxt ?_ | ((first | refine zqh fun K J => ?_ | refine zqs (c1) ?_); (simp (disch := omega) only [go_sem, Nat.reduceBEq, ↓reduceIte, Nat.reduceAdd, Nat.reduceLeDiff])) | ((refine zqd _ rfl (fun hc => ?_) (fun hc => ?_)) <;> (first | (cases hc; done) | ((try simp only [] at hc); (try (exfalso; omega))))) | refine zqu (by (simp (disch := omega) only [go_sem, Nat.reduceBEq, ↓reduceIte, Nat.reduceAdd, Nat.reduceLeDiff]); rfl) rfl ?_ | (refine J _ ?_; clear J K))
  exact z07 rfl (Le.tup ⟨z0u, Le.refl _, trivial⟩)
 rw [Bool.not_eq_false] at h1
 rw [h1] at c1
 repeat' (first | refine nxt ?_ | ((first | refine zqh fun K J => ?_ | refine zqs (c1) ?_); (simp (disch := omega) only [go_sem, Nat.reduceBEq, ↓reduceIte, Nat.reduceAdd, Nat.reduceLeDiff])) | ((refine zqd _ rfl (fun hc => ?_) (fun hc => ?_)) <;> (first | (cases hc; done) | ((try simp only [] at hc); (try (exfalso; omega))))) | (refine J _ ?_; clear J K))
 (refine z3m (fun U st => ∃ (i : _), U = l.length - i /\ st.t 2 = z0n l /\ st.t 3 = .bool head /\ st.t 4 = .ptr 0 0 /\ st.t 5 = .ptr 1 0 /\ st.t 8 = .ptr 2 0 /\ st.t 10 = .int .i64 i /\ st.H 0 = some (.box 27 (z0b u)) /\ st.H 1 = some (.box 23 (z0a id)) /\ st.H 2 = some (.box 27 [.int .i64 0, .int .i64 0, .int .i64 0, .int .i64 0, .str ByteArray.empty, .nil, .nil, .nil]) /\ st.nx = 3 /\ (i <= l.length) /\ ((l.take i).any (fun w => !z6k w.text) = false)) ?_ ?_); rotate_left; (rintro U st ⟨i, rfl, q2, q3, q4, q5, q8, q10, qH0, qH1, qH2, qnx, qp0, qp1⟩); rotate_left
 ·(refine ⟨_, 0, rfl, ?_⟩); (simp (disch := omega) only [go_sem, Nat.reduceBEq, and_self, Int.natCast_zero, z0a])
  try simp
 by_cases hi : i < l.length
 ·have c2 := c2 i hi
  cases hwd : z6k l[i].text
  ·rw [hwd] at c2
   rw [show z2y u id l = 1 from by unfold z2y; rw [if_pos (.inr (zkk (f := fun w : Wd => !z6k w.text) hi (by rw [hwd]; rfl)))], if_neg (by decide)]
   repeat' (first | refine nxt ?_ | ((first | refine zqh fun K J => ?_ | refine zqs (c2) ?_); (simp (disch := omega) only [go_sem, Nat.reduceBEq, ↓reduceIte, reduceCtorEq, Nat.reduceAdd, Nat.reduceLeDiff, q2, q8, q10, qH2, qnx, z0n])) | ((first | refine zqd _ rfl (fun hc => ?_) (fun hc => ?_) | refine zqm _ rfl (fun hc => ?_) (fun hc => ?_)) <;> (first | (cases hc; done) | ((try simp only [z09] at hc); (try (exfalso; omega))))) | refine zqu (by (simp (disch := omega) only [go_sem, Nat.reduceBEq, ↓reduceIte, Nat.reduceAdd, Nat.reduceLeDiff, q8, qH2]); rfl) rfl ?_ | (refine J _ ?_; clear J K))
   exact z07 rfl (Le.tup ⟨z0u, Le.refl _, trivial⟩)
  ·rw [hwd] at c2
   repeat' (first | refine nxt ?_ | ((first | refine zqh fun K J => ?_ | refine zqr fun K J => ?_ | refine zqs (c2) ?_); (simp (disch := omega) only [go_sem, Nat.reduceBEq, ↓reduceIte, reduceCtorEq, Nat.reduceAdd, q2, q10, qnx, z0n])) | ((first | refine zqd _ rfl (fun hc => ?_) (fun hc => ?_) | refine zqm _ rfl (fun hc => ?_) (fun hc => ?_)) <;> (first | (cases hc; done) | ((try simp only [z09] at hc); (try (exfalso; omega))))) | (refine J _ ?_; clear J K))
   (refine Exists.intro _ (And.intro ?_ ⟨i + 1, rfl, ?_⟩)); rotate_left; (simp (disch := omega) only [go_sem, Nat.reduceBEq, q2, q3, q4, q5, q8, q10, qH0, qH1, qH2, true_and, Int.natCast_add, Int.natCast_one, z0a, z0n]); rotate_left
   ·omega
   ·exact ⟨by omega, z52 hi qp1 (by rw [hwd]; rfl)⟩
 ·have ho : zz7 l = false := zkl hi qp1
  have e0 : z2y u id l = (if (z06 id u).2 = false then 4 else if (z06 id u).1.kind = 0 then 9 else if 256 < l.length then 6 else 0) := by unfold z2y; rw [if_neg (by rw [h1, ho]; simp)]
  by_cases h3 : (z06 id u).2 = false
  ·rw [show z2y u id l = 4 from by rw [e0, if_pos h3], if_neg (by decide)]
   rw [h3] at c3
   repeat' (first | refine nxt ?_ | ((first | refine zqh fun K J => ?_ | refine zqs (c3) ?_); (simp (disch := omega) only [go_sem, Nat.reduceBEq, ↓reduceIte, Nat.reduceAdd, Nat.reduceLeDiff, q2, q4, q5, q8, q10, qH0, qH1, qH2, qnx, z0a, z0n])) | ((refine zqd _ rfl (fun hc => ?_) (fun hc => ?_)) <;> (first | (cases hc; done) | ((try simp only [z09] at hc); (try (exfalso; omega))))) | refine zqz ?_ | refine zqu (by (simp (disch := omega) only [go_sem, Nat.reduceBEq, ↓reduceIte, Nat.reduceAdd, Nat.reduceLeDiff, q8, qH2]); rfl) rfl ?_ | (refine J _ ?_; clear J K))
   exact z07 rfl (Le.tup ⟨z0u, Le.refl _, trivial⟩)
  rw [if_neg h3] at e0
  rw [Bool.not_eq_false] at h3
  rw [h3] at c3
  have hm : id ∈ z0j u := by rw [z32, decide_eq_true_eq] at h3; exact h3
  by_cases h4 : (z06 id u).1.kind = 0
  ·rw [show z2y u id l = 9 from by rw [e0, if_pos h4], if_neg (by decide)]
   have h4d : decide ((z06 id u).1.kind = 0) = true := decide_eq_true h4
   repeat' (first | refine nxt ?_ | ((first | refine zqh fun K J => ?_ | refine zqs (c3) ?_); (simp (disch := omega) only [go_sem, Nat.reduceBEq, ↓reduceIte, reduceCtorEq, Nat.reduceAdd, Nat.reduceLeDiff, q2, q4, q5, q8, q10, qH0, qH1, qH2, qnx, z0a, z0n, h4d])) | ((refine zqd _ rfl (fun hc => ?_) (fun hc => ?_)) <;> (first | (cases hc; done) | ((try simp only [z09] at hc); (try (exfalso; omega))))) | refine zqz ?_ | refine zqu (by (simp (disch := omega) only [go_sem, Nat.reduceBEq, ↓reduceIte, Nat.reduceAdd, Nat.reduceLeDiff, q8, qH2]); rfl) rfl ?_ | (refine J _ ?_; clear J K))
   exact z07 rfl (Le.tup ⟨z0u, Le.refl _, trivial⟩)
  rw [if_neg h4] at e0
  have h4d : decide ((z06 id u).1.kind = 0) = false := decide_eq_false h4
  by_cases h5 : 256 < l.length
  ·rw [show z2y u id l = 6 from by rw [e0, if_pos h5], if_neg (by decide)]
   repeat' (first | refine nxt ?_ | ((first | refine zqh fun K J => ?_ | refine zqs (c3) ?_); (simp (disch := omega) only [go_sem, Nat.reduceBEq, ↓reduceIte, reduceCtorEq, Nat.reduceAdd, Nat.reduceLeDiff, q2, q4, q5, q8, q10, qH0, qH1, qH2, qnx, z0a, z0n, h4d])) | ((refine zqd _ rfl (fun hc => ?_) (fun hc => ?_)) <;> (first | (cases hc; done) | ((try simp only [z09] at hc); (try (exfalso; omega))))) | refine zqz ?_ | refine zqu (by (simp (disch := omega) only [go_sem, Nat.reduceBEq, ↓reduceIte, Nat.reduceAdd, Nat.reduceLeDiff, q8, qH2]); rfl) rfl ?_ | (refine J _ ?_; clear J K))
   exact z07 rfl (Le.tup ⟨z0u, Le.refl _, trivial⟩)
  rw [if_neg h5] at e0
  rw [e0, if_pos rfl]
  obtain ⟨_, _, hfi, _, _⟩ := focus id u hm
  rw [show z0h (z06 id u).1 = .agg _ from by rw [z0h, z0l]] at c3
  cases head
  ·have c7 := zoy ((z06 id u).1.setWords l) u hu
   rw [zge (f := fun q => q.setWords l) (z1k h1) hm rfl hfi (fun q => rfl)] at c7
   rw [show z0h ((z06 id u).1.setWords l) = .agg _ from by rw [z0h, z0l]] at c7
   repeat' (first | refine nxt ?_ | ((first | refine zqh fun K J => ?_ | refine zqs (c3) ?_ | refine zqs (c7) ?_); (simp (disch := omega) only [go_sem, Nat.reduceBEq, ↓reduceIte, reduceCtorEq, Nat.reduceAdd, Nat.reduceMul, Nat.reduceLeDiff, Nat.reduceLT, q2, q3, q4, q5, q8, q10, qH0, qH1, qH2, qnx, z0a, z0n, h4d, z4j, z99, za7, List.set_cons_succ, List.set_cons_zero])) | ((refine zqd _ rfl (fun hc => ?_) (fun hc => ?_)) <;> (first | (cases hc; done) | ((try simp only [z09] at hc); (try (exfalso; omega))))) | refine zqz ?_ | refine zqu (by (simp (disch := omega) only [go_sem, Nat.reduceBEq, ↓reduceIte, Nat.reduceLeDiff, q8, qH2]); rfl) rfl ?_ | (refine J _ ?_; clear J K))
   simp only [Bool.false_eq_true, if_false]
   refine z07 ?_ (Le.refl _)
   simp only [pureD, pureD.pureL, z04, Bool.and_self]
  ·have c7 := zoy ((z06 id u).1.setHead l) u hu
   rw [zge (f := fun q => q.setHead l) (z1k h1) hm rfl hfi (fun q => rfl)] at c7
   rw [show z0h ((z06 id u).1.setHead l) = .agg _ from by rw [z0h, z0l]] at c7
   repeat' (first | refine nxt ?_ | ((first | refine zqh fun K J => ?_ | refine zqs (c3) ?_ | refine zqs (c7) ?_); (simp (disch := omega) only [go_sem, Nat.reduceBEq, ↓reduceIte, reduceCtorEq, Nat.reduceAdd, Nat.reduceMul, Nat.reduceLeDiff, Nat.reduceLT, q2, q3, q4, q5, q8, q10, qH0, qH1, qH2, qnx, z0a, z0n, h4d, z4j, z99, za7, List.set_cons_succ, List.set_cons_zero])) | ((refine zqd _ rfl (fun hc => ?_) (fun hc => ?_)) <;> (first | (cases hc; done) | ((try simp only [z09] at hc); (try (exfalso; omega))))) | refine zqz ?_ | refine zqu (by (simp (disch := omega) only [go_sem, Nat.reduceBEq, ↓reduceIte, Nat.reduceLeDiff, q8, qH2]); rfl) rfl ?_ | (refine J _ ?_; clear J K))
   simp only [if_true]
   refine z07 ?_ (Le.refl _)
   simp only [pureD, pureD.pureL, z04, Bool.and_self]
namespace Tr
def zhp (rest p : T) (parent : Idv) (x : T) : Bool := decide (64 <= p.kids.length \/ 8 < (z78 parent rest).length + 1 + depT x)
def z49 (u : T) (id parent : Idv) (i : Int) : Int :=
 if standsT u = false then 1 else
 if (z06 id u).2 = false \/ (z06 parent u).2 = false then 4 else
 if u.id = id \/ (z06 parent (z06 id u).1).2 = true then 9 else
 if z1w (z06 parent (z0o id u)).1.kind (z06 id u).1.kind = false then 9 else
 if i < 0 \/ ((z06 parent (z0o id u)).1.kids.length : Int) < i then 3 else
 if z3a (z06 parent (z0o id u)).1.kids (z06 id u).1.kind (z06 id u).1.label = true then 10 else
 if zhp (z0o id u) (z06 parent (z0o id u)).1 parent (z06 id u).1 = true then 6 else 0
theorem zjw {u : T} {id parent : Idv} {i : Int} (h : z49 u id parent i = 0) : standsT u = true /\ id ∈ z0j u /\ parent ∈ z0j u /\ ¬ u.id = id /\ parent ∉ z0j (z06 id u).1 /\ z3d (z0o id u) parent i (z06 id u).1 = 0 := by
 unfold z49 at h
 split at h
 ·cases h
 rename_i h1
 split at h
 ·cases h
 rename_i h2
 split at h
 ·cases h
 rename_i h3
 split at h
 ·cases h
 rename_i h4
 split at h
 ·cases h
 rename_i h5
 split at h
 ·cases h
 rename_i h6
 split at h
 ·cases h
 rename_i h7
 simp only [not_or, Bool.not_eq_false, Bool.not_eq_true] at h1 h2 h3 h4 h6 h7
 obtain ⟨h2a, h2b⟩ := h2
 obtain ⟨h3a, h3b⟩ := h3
 rw [z32, decide_eq_true_eq] at h2a h2b
 rw [z32, decide_eq_false_iff_not] at h3b
 obtain ⟨under, n, x, d1, d2, d3, d4, d5, d6, d7, d8, d9, d10, d11, d12⟩ := zfu h1 h3a h2a
 rw [d2] at h3b h4 h6 h7 ⊢
 simp only at h3b h4 h6 h7 ⊢
 have hpr : parent ∈ z0j (z0o id u) := (d12 parent h2b).resolve_left h3b
 have hc : cntT u <= 1024 := ((z24 u).1 h1).2.2.1
 unfold zhp at h7
 rw [decide_eq_false_iff_not] at h7
 refine ⟨h1, h2a, h2b, h3a, h3b, ?_⟩
 obtain ⟨m, rfl⟩ := Int.eq_ofNat_of_zero_le (show 0 <= i by omega)
 exact zi3 d4 d5 d6 hpr h4 (by omega) h6 (by omega) (by omega) (by omega) d9
theorem zly {u : T} {id parent : Idv} (h1 : standsT u = true) (h2 : id ∈ z0j u) (h3 : parent ∈ z0j u) (h4 : ¬ u.id = id) (h5 : parent ∉ z0j (z06 id u).1) : (z06 parent (z0o id u)).1.kind = (z06 parent u).1.kind := by
 have := zv5 u (z1k h1) h4 h3 (fun y hy => by rw [hy] at h5; exact h5)
 rw [this]
 exact (z8w id _).2.1
end Tr
theorem pc_Move1 (u : T) (hu : szB u = true) (cu : cntT u <= 1000000) (du : depT u <= 1000000) : PC Tryz.prog 133 [.rptr (z0h u)] (.bool (!standsT u)) := by
 have c1 := z8n u hu (by omega) (by omega)
 refine z14 1 (by simp only [pureD.pureL, z01, pureD, Bool.and_self]) rfl (z10 [] Tryz.func133 rfl (by decide +kernel) z0e (by decide +kernel) (by simp [Tryz.ntmps133]) ?_)
 show awp _ _ (Code.seq _ _) _ _
 repeat' (first | ((first | refine zqh fun K J => ?_ | refine zqs (c1) ?_); (simp (disch := omega) only [go_sem, Nat.reduceBEq, ↓reduceIte, Nat.reduceAdd])) | refine nxt ?_ | refine zqu (by (simp (disch := omega) only [go_sem]); rfl) rfl ?_ | (refine J _ ?_; clear J K))
 exact z03 rfl
theorem pc_Move2 (u : T) (hu : szB u = true) (cu : cntT u <= 1000000) (du : depT u <= 1000000) (id parent : Idv) : PC Tryz.prog 134 [.rptr (z0h u), .rptr (z19 id), .rptr (z19 parent)] (.bool (!(z06 id u).2 || !(z06 parent u).2)) := by
 have c1 := zmk u (z8h u hu) (by omega) id
 have c2 := zmk u (z8h u hu) (by omega) parent
 refine z14 1 (by simp only [pureD.pureL, z01, pureD]; rfl) rfl (z10 [] Tryz.func134 rfl (by decide +kernel) z0e (by decide +kernel) (by simp [Tryz.ntmps134]) ?_)
 show awp _ _ (Code.seq _ _) _ _
 repeat' (first | ((first | refine zqh fun K J => ?_ | refine zqs (c1) ?_ | refine zqs (c2) ?_); (simp (disch := omega) only [go_sem, Nat.reduceBEq, ↓reduceIte, Nat.reduceAdd])) | refine nxt ?_ | refine zqu (by (simp (disch := omega) only [go_sem]); rfl) rfl ?_ | (refine J _ ?_; clear J K) | (refine zqf (fun hb => ?_) (fun hb => ?_) <;> (have hb2 := hb; try simp only [z09] at hb2) <;> ((have F : (_ : Bool) = _ := hb2); (simp (disch := omega) only [go_sem, Nat.reduceBEq, ↓reduceIte, Nat.reduceAdd, F]); clear hb F; (try (exfalso; omega)))))
 all_goals exact z03 (by simp [hb2])
theorem pc_Move3 (u p x : T) (hu : szB u = true) (hx : szB x = true) (cp : p.kids.length <= 1000000) (du : depT u <= 1000000) (dx : depT x <= 1000000) (parent : Idv) : PC Tryz.prog 135 [.rptr (z0h p), .rptr (z0h u), .rptr (z19 parent), .rptr (z0h x)] (.bool (zhp u p parent x)) := by
 have c1 := zr7 u (z8h u hu) (by omega) parent
 have c2 := zku x (z7u x hx) (by omega)
 have ha := zfj parent u
 refine z14 1 (by simp only [pureD.pureL, z01, pureD, Bool.and_self]; rfl) rfl (z10 [3000006, 3000010, 3000011, 5000012, 3000014, 5000015] Tryz.func135 rfl (by decide +kernel) z0e (by decide +kernel) (by simp [Tryz.ntmps135]) ?_)
 show awp _ _ (Code.seq _ _) _ _
 repeat' (first | ((first | refine zqh fun K J => ?_ | refine zqe (by decide +kernel) fun K J => ?_ | refine zqt (c1) ?_ | refine zqt (c2) ?_); (simp (disch := omega) only [go_sem, Nat.reduceBEq, Nat.reduceEqDiff, ↓reduceIte, reduceCtorEq, Nat.reduceAdd, z0r])) | refine nxt ?_ | refine zqu (by (simp (disch := omega) only [go_sem]); rfl) rfl ?_ | (refine J _ ?_; clear J K) | (refine zqf (fun hb => ?_) (fun hb => ?_) <;> (have hb2 := hb; try simp only [z09] at hb2) <;> ((first | have F := eq_false hb2 | have F := eq_true hb2); (simp (disch := omega) only [go_sem, Nat.reduceBEq, Nat.reduceEqDiff, ↓reduceIte, Nat.reduceAdd, F]); clear hb F; (try (exfalso; omega)))))
 ·exact z03 (decide_eq_decide.2 (by omega))
 ·exact z03 (decide_eq_true (by omega)).symm
theorem pc_Move4 (p : T) (i : Int) : PC Tryz.prog 137 [.rptr (.int .i64 i), .rptr (z0h p)] (.bool (decide (i < 0) || decide ((p.kids.length : Int) < i))) := by
 refine z14 1 (by simp only [pureD.pureL, z01, pureD, Bool.and_self]) rfl (z10 [] Tryz.func137 rfl (by decide +kernel) z0e (by decide +kernel) (by simp [Tryz.ntmps137]) ?_)
 show awp _ _ (Code.seq _ _) _ _
 repeat' (first | ((refine zqh fun K J => ?_); (simp (disch := omega) only [go_sem, Nat.reduceBEq, ↓reduceIte, Nat.reduceAdd])) | refine nxt ?_ | refine zqu (by (simp (disch := omega) only [go_sem]); rfl) rfl ?_ | (refine J _ ?_; clear J K) | (refine zqf (fun hb => ?_) (fun hb => ?_) <;> (have hb2 := hb; try simp only [z09] at hb2) <;> ((first | have F := eq_false hb2 | have F := eq_true hb2); (simp (disch := omega) only [go_sem, Nat.reduceBEq, ↓reduceIte, reduceCtorEq, Nat.reduceAdd, F, z0r]); clear hb F; (try (exfalso; omega)))))
 all_goals exact z03 (by simp [hb2])
theorem pc_Move5 (p x : T) (hp : szB p = true) : PC Tryz.prog 138 [.rptr (z0h p), .rptr (z0h x)] (.bool (z3a p.kids x.kind x.label)) := by
 have c1 := zk5 p.kids (z9c hp).1 x.kind x.label
 refine z14 1 (by simp only [pureD.pureL, z01, pureD, Bool.and_self]) rfl (z10 [] Tryz.func138 rfl (by decide +kernel) z0e (by decide +kernel) (by simp [Tryz.ntmps138]) ?_)
 show awp _ _ (Code.seq _ _) _ _
 repeat' (first | ((first | refine zqh fun K J => ?_ | refine zqs (c1) ?_); (simp (disch := omega) only [go_sem, Nat.reduceBEq, ↓reduceIte, reduceCtorEq, Nat.reduceAdd, z0r])) | refine nxt ?_ | refine zqu (by (simp (disch := omega) only [go_sem]); rfl) rfl ?_ | (refine J _ ?_; clear J K))
 exact z03 rfl
theorem zo7 (u : T) (id parent : Idv) (f1 f2 : FuncId) (c1 c2 : List D) : z8m [(f1, c1, 1, !standsT u), (f2, c2, 4, !(z06 id u).2 || !(z06 parent u).2)] = (if standsT u = false then 1 else if (z06 id u).2 = false \/ (z06 parent u).2 = false then 4 else 0) := by
 cases h1 : standsT u
 ·rw [if_pos rfl]; rfl
 rw [if_neg (by simp), Bool.not_true, z4l]
 cases h2 : (z06 id u).2
 ·rw [if_pos (.inl rfl)]; rfl
 cases h3 : (z06 parent u).2
 ·rw [if_pos (.inr rfl)]; rfl
 ·rw [if_neg (by simp)]; rfl
theorem zsz (rest p x : T) (parent : Idv) (i : Int) (f1 f2 f3 : FuncId) (c1 c2 c3 : List D) : z8m [(f1, c1, 3, decide (i < 0) || decide ((p.kids.length : Int) < i)), (f2, c2, 10, z3a p.kids x.kind x.label), (f3, c3, 6, zhp rest p parent x)] =
  (if i < 0 \/ (p.kids.length : Int) < i then 3 else if z3a p.kids x.kind x.label = true then 10 else if zhp rest p parent x = true then 6 else 0) := by
 by_cases hi : i < 0 \/ (p.kids.length : Int) < i
 ·rw [if_pos hi, show (decide (i < 0) || decide ((p.kids.length : Int) < i)) = true from by simpa using hi]; rfl
 rw [if_neg hi, show (decide (i < 0) || decide ((p.kids.length : Int) < i)) = false from by simpa using hi, z4l]
 cases ht : z3a p.kids x.kind x.label
 ·rw [if_neg (by simp), z4l]
  cases hf : zhp rest p parent x
  ·rw [if_neg (by simp)]; rfl
  ·rw [if_pos rfl]; rfl
 ·rw [if_pos rfl]; rfl
theorem pc_Move (u : T) (hu : szB u = true) (cu : cntT u <= 1000000) (du : depT u <= 1000000) (id parent : Idv) (i : Int) :
  PC Tryz.prog 90 [z0h u, z19 id, z19 parent, .int .i64 i] (.tup [z0h (if z49 u id parent i = 0 then z1g parent (z7j i.toNat (z06 id u).1) (z0o id u) else T.zero), .int .i64 (z49 u id parent i)]) := by
 have hx := z4p id u hu
 have hr := zxm (id := id) u hu
 have dr : depT (z0o id u) <= depT u := zps u
 have dx : depT (z06 id u).1 <= depT u := zpt id u
 have hp := z4p parent (z0o id u) hr
 have c1 := z7a u (z8h u hu) (by omega) id
 have c2 := z7a u (z8h u hu) (by omega) parent
 have c3 := zmk (z06 id u).1 (z8h _ hx) (by omega) parent
 have c4 := z9b (z06 parent u).1.kind (z06 id u).1.kind
 have c6 := z7a (z0o id u) (z8h _ hr) (by omega) parent
 have c7 := zb8 [(133, [.rptr (z0h u)], 1, !standsT u), (134, [.rptr (z0h u), .rptr (z19 id), .rptr (z19 parent)], 4, !(z06 id u).2 || !(z06 parent u).2)]
  (by simp) (by
   intro c hc
   simp only [List.mem_cons, List.not_mem_nil, or_false] at hc
   rcases hc with rfl | rfl
   ·exact ⟨by simp only [pureD.pureL, z01, pureD, Bool.and_self], pc_Move1 u hu cu du⟩
   ·exact ⟨by simp only [pureD.pureL, z01, pureD]; rfl, pc_Move2 u hu cu du id parent⟩)
 have c8 := zb8 [(137, [.rptr (.int .i64 i), .rptr (z0h (z06 parent (z0o id u)).1)], 3, decide (i < 0) || decide (((z06 parent (z0o id u)).1.kids.length : Int) < i)), (138, [.rptr (z0h (z06 parent (z0o id u)).1), .rptr (z0h (z06 id u).1)], 10, z3a (z06 parent (z0o id u)).1.kids (z06 id u).1.kind (z06 id u).1.label),
   (135, [.rptr (z0h (z06 parent (z0o id u)).1), .rptr (z0h (z0o id u)), .rptr (z19 parent), .rptr (z0h (z06 id u).1)], 6, zhp (z0o id u) (z06 parent (z0o id u)).1 parent (z06 id u).1)]
  (by simp) (by
   intro c hc
   simp only [List.mem_cons, List.not_mem_nil, or_false] at hc
   rcases hc with rfl | rfl | rfl
   ·exact ⟨by simp only [pureD.pureL, z01, pureD, Bool.and_self], pc_Move4 _ i⟩
   ·exact ⟨by simp only [pureD.pureL, z01, pureD, Bool.and_self], pc_Move5 _ _ hp⟩
   ·exact ⟨by simp only [pureD.pureL, z01, pureD, Bool.and_self]; rfl, pc_Move3 _ _ _ hr hx (z9c hp).1 (by omega) (by omega) parent⟩)
 rw [zo7] at c7
 rw [zsz] at c8
 refine z14 3 (by simp only [pureD.pureL, z01, pureD, Bool.and_self]; rfl) (by simp only [pureD.pureL, z01, pureD, Bool.and_self]) (z10 [3000081, 3000082, 3000083, 3000084, 5000085, 5000086] Tryz.func90 rfl (by decide +kernel) z0e (by decide +kernel) (by simp [Tryz.ntmps90]) ?_)
 show awp _ _ (Code.seq _ _) _ _
 rw [show Tryz.f90.results.toList = [.cell 8 27, .tmp 9] from rfl]
 by_cases h1 : standsT u = false
 ·rw [if_pos h1] at c7
  rw [show z49 u id parent i = 1 from by unfold z49; rw [if_pos h1], if_neg (by decide)]
  repeat' (first | ((refine zqh fun K J => ?_); (simp (disch := omega) only [go_sem, Nat.reduceBEq, ↓reduceIte, reduceCtorEq, Nat.reduceAdd, Nat.reduceMul, Nat.reduceLeDiff])) | (refine J _ ?_; clear J K))
  refine z0x (PC.borrow c7 rfl 6 (z00 (z36 5 rfl (z00 (z0w _ 2 rfl (z00 (z05 (e := 27) 1 ?_ z0k (z04 _)) z0c)) (z00 (z0w _ 2 rfl (z00 (z05 (e := 27) 1 ?_ z0k (z04 _)) (z00 (z05 (e := 23) 1 ?_ z1n rfl) (z00 (z05 (e := 23) 1 ?_ z1n rfl) z0c)))) z0c))) z0c)) ?_
  all_goals try (focus ((simp (disch := omega) only [go_sem, Nat.reduceBEq, z0a]); done))
  (try (simp (disch := omega) only [go_sem, Nat.reduceBEq])); repeat' (first | refine nxt ?_ | ((refine zqh fun K J => ?_); (simp (disch := omega) only [go_sem, Nat.reduceBEq, ↓reduceIte, Nat.reduceAdd, Nat.reduceLeDiff, Int.reduceEq])) | ((refine zqd _ rfl (fun hc => ?_) (fun hc => ?_)) <;> (first | (cases hc; done) | ((try simp only [] at hc); (try (exfalso; omega))))) | refine zqu (by (simp (disch := omega) only [go_sem, Nat.reduceBEq, ↓reduceIte, Nat.reduceAdd, Nat.reduceLeDiff]); rfl) rfl ?_ | (refine J _ ?_; clear J K))
  exact z07 rfl (Le.tup ⟨z0u, Le.refl _, trivial⟩)
 rw [if_neg h1] at c7
 by_cases h2 : (z06 id u).2 = false \/ (z06 parent u).2 = false
 ·rw [if_pos h2] at c7
  rw [show z49 u id parent i = 4 from by unfold z49; rw [if_neg h1, if_pos h2], if_neg (by decide)]
  repeat' (first | ((refine zqh fun K J => ?_); (simp (disch := omega) only [go_sem, Nat.reduceBEq, ↓reduceIte, reduceCtorEq, Nat.reduceAdd, Nat.reduceMul, Nat.reduceLeDiff])) | (refine J _ ?_; clear J K))
  refine z0x (PC.borrow c7 rfl 6 (z00 (z36 5 rfl (z00 (z0w _ 2 rfl (z00 (z05 (e := 27) 1 ?_ z0k (z04 _)) z0c)) (z00 (z0w _ 2 rfl (z00 (z05 (e := 27) 1 ?_ z0k (z04 _)) (z00 (z05 (e := 23) 1 ?_ z1n rfl) (z00 (z05 (e := 23) 1 ?_ z1n rfl) z0c)))) z0c))) z0c)) ?_
  all_goals try (focus ((simp (disch := omega) only [go_sem, Nat.reduceBEq, z0a]); done))
  (try (simp (disch := omega) only [go_sem, Nat.reduceBEq])); repeat' (first | refine nxt ?_ | ((refine zqh fun K J => ?_); (simp (disch := omega) only [go_sem, Nat.reduceBEq, ↓reduceIte, Nat.reduceAdd, Nat.reduceLeDiff, Int.reduceEq])) | ((refine zqd _ rfl (fun hc => ?_) (fun hc => ?_)) <;> (first | (cases hc; done) | ((try simp only [] at hc); (try (exfalso; omega))))) | refine zqu (by (simp (disch := omega) only [go_sem, Nat.reduceBEq, ↓reduceIte, Nat.reduceAdd, Nat.reduceLeDiff]); rfl) rfl ?_ | (refine J _ ?_; clear J K))
  exact z07 rfl (Le.tup ⟨z0u, Le.refl _, trivial⟩)
 rw [if_neg h2] at c7
 rw [Bool.not_eq_false] at h1
 simp only [not_or, Bool.not_eq_false] at h2
 obtain ⟨h2a, h2b⟩ := h2
 have m1 : id ∈ z0j u := by rw [z32, decide_eq_true_eq] at h2a; exact h2a
 have m2 : parent ∈ z0j u := by rw [z32, decide_eq_true_eq] at h2b; exact h2b
 have e0 : z49 u id parent i = (if u.id = id \/ (z06 parent (z06 id u).1).2 = true then 9 else
   if z1w (z06 parent (z0o id u)).1.kind (z06 id u).1.kind = false then 9 else
   if i < 0 \/ ((z06 parent (z0o id u)).1.kids.length : Int) < i then 3 else
   if z3a (z06 parent (z0o id u)).1.kids (z06 id u).1.kind (z06 id u).1.label = true then 10 else
   if zhp (z0o id u) (z06 parent (z0o id u)).1 parent (z06 id u).1 = true then 6 else 0) := by
  unfold z49; rw [if_neg (by rw [h1]; simp), if_neg (by rw [h2a, h2b]; simp)]
 have hself : decide (id = u.id) = decide (u.id = id) := decide_eq_decide.2 ⟨fun h => h.symm, fun h => h.symm⟩
 by_cases h3 : u.id = id \/ (z06 parent (z06 id u).1).2 = true \/ z1w (z06 parent u).1.kind (z06 id u).1.kind = false
 ·have e9 : z49 u id parent i = 9 := by
   rw [e0]
   by_cases h4 : u.id = id \/ (z06 parent (z06 id u).1).2 = true
   ·rw [if_pos h4]
   ·rw [if_neg h4]
    have h5 : z1w (z06 parent u).1.kind (z06 id u).1.kind = false := by
     rcases h3 with h | h | h
     ·exact (h4 (.inl h)).elim
     ·exact (h4 (.inr h)).elim
     ·exact h
    have O := zly h1 m1 m2 (fun e => h4 (.inl e)) (fun hm => h4 (.inr (by rw [z32, decide_eq_true hm])))
    rw [O, if_pos h5]
  rw [e9, if_neg (by decide)]
  repeat' (first | ((refine zqh fun K J => ?_); (simp (disch := omega) only [go_sem, Nat.reduceBEq, ↓reduceIte, reduceCtorEq, Nat.reduceAdd, Nat.reduceMul, Nat.reduceLeDiff])) | (refine J _ ?_; clear J K))
  refine z0x (PC.borrow c7 rfl 6 (z00 (z36 5 rfl (z00 (z0w _ 2 rfl (z00 (z05 (e := 27) 1 ?_ z0k (z04 _)) z0c)) (z00 (z0w _ 2 rfl (z00 (z05 (e := 27) 1 ?_ z0k (z04 _)) (z00 (z05 (e := 23) 1 ?_ z1n rfl) (z00 (z05 (e := 23) 1 ?_ z1n rfl) z0c)))) z0c))) z0c)) ?_
  all_goals try (focus ((simp (disch := omega) only [go_sem, Nat.reduceBEq, z0a]); done))
  (try (simp (disch := omega) only [go_sem, Nat.reduceBEq])); repeat' (first | refine nxt ?_ | ((first | refine zqh fun K J => ?_ | refine zqs (c1) ?_ | refine zqs (c2) ?_ | refine zqs (c3) ?_ | refine zqs (c4) ?_); (simp (disch := omega) only [go_sem, Nat.reduceBEq, ↓reduceIte, reduceCtorEq, Nat.reduceAdd, Nat.reduceLeDiff, hself])) | ((refine zqd _ rfl (fun hc => ?_) (fun hc => ?_)) <;> (first | (cases hc; done) | ((try simp only [z09] at hc); (try (exfalso; omega))))) | refine zqu (by (simp (disch := omega) only [go_sem, Nat.reduceBEq, ↓reduceIte, Nat.reduceAdd, Nat.reduceLeDiff]); rfl) rfl ?_ | (refine J _ ?_; clear J K) | (refine zqf (fun hb => ?_) (fun hb => ?_) <;> (have hb2 := hb; try simp only [z09] at hb2) <;> ((first | have F : (_ : Bool) = _ := hb2 | have F := eq_false hb2 | have F := eq_true hb2); (simp (disch := omega) only [go_sem, Nat.reduceBEq, ↓reduceIte, reduceCtorEq, Nat.reduceAdd, Nat.reduceLeDiff, F]); clear hb F; (try (exfalso; omega)))))
  ·exact z07 rfl (Le.tup ⟨z0u, Le.refl _, trivial⟩)
  ·exfalso
   rcases h3 with h | h | h
   ·exact ‹¬ u.id = id› h
   ·rw [‹(z06 parent (z06 id u).1).2 = false›] at h; cases h
   ·rw [‹z1w (z06 parent u).1.kind (z06 id u).1.kind = true›] at h; cases h
  all_goals exact z07 rfl (Le.tup ⟨z0u, Le.refl _, trivial⟩)
 simp only [not_or, Bool.not_eq_true, Bool.not_eq_false] at h3
 obtain ⟨h3a, h3b, h3c⟩ := h3
 have n1 : parent ∉ z0j (z06 id u).1 := by rw [z32, decide_eq_false_iff_not] at h3b; exact h3b
 have O := zly h1 m1 m2 h3a n1
 rw [if_neg (by simp [h3a, h3b]), if_neg (by rw [O, h3c]; simp)] at e0
 rw [<- e0] at c8
 have c5 := zfl u hu du id h1 m1 h3a
 have h3d : decide (id = u.id) = false := decide_eq_false fun e => h3a e.symm
 rw [h3b] at c3
 rw [h3c] at c4
 by_cases hw : z49 u id parent i = 0
 ·obtain ⟨_, _, _, _, _, hwr⟩ := zjw hw
  obtain ⟨hr2, hm, n, rfl, hn⟩ := zc3 hwr
  have c9 := pc_put n (z06 id u).1
  have c10 := zfw (z0o id u) hr parent (z7j n (z06 id u).1) (g := 179) (cap := [.rptr (.int .i64 n), .rptr (z0h (z06 id u).1)]) (by simp only [pureD.pureL, z01, pureD, Bool.and_self]) (fun q hq hid => zvi n _ hx q (zaq _ hr q hq) (hn q hq hid))
  rw [(show (atR parent (z7j n (z06 id u).1) (z0o id u)).1 = z1g parent (z7j n (z06 id u).1) (z0o id u) from by rw [zgw _ (z1k hr2.1) hm])] at c10
  rw [hw] at c8 ⊢
  rw [if_pos rfl, Int.toNat_natCast]
  repeat' (first | ((refine zqh fun K J => ?_); (simp (disch := omega) only [go_sem, Nat.reduceBEq, ↓reduceIte, reduceCtorEq, Nat.reduceAdd, Nat.reduceMul, Nat.reduceLeDiff])) | (refine J _ ?_; clear J K))
  refine z0x (PC.borrow c7 rfl 6 (z00 (z36 5 rfl (z00 (z0w _ 2 rfl (z00 (z05 (e := 27) 1 ?_ z0k (z04 _)) z0c)) (z00 (z0w _ 2 rfl (z00 (z05 (e := 27) 1 ?_ z0k (z04 _)) (z00 (z05 (e := 23) 1 ?_ z1n rfl) (z00 (z05 (e := 23) 1 ?_ z1n rfl) z0c)))) z0c))) z0c)) ?_
  all_goals try (focus ((simp (disch := omega) only [go_sem, Nat.reduceBEq, z0a]); done))
  (try (simp (disch := omega) only [go_sem, Nat.reduceBEq])); repeat' (first | refine nxt ?_ | ((first | refine zqh fun K J => ?_ | refine zqs (c1) ?_ | refine zqs (c2) ?_ | refine zqs (c3) ?_ | refine zqs (c4) ?_ | refine zqs (c5) ?_ | refine zqs (c6) ?_); (simp (disch := omega) only [go_sem, Nat.reduceBEq, ↓reduceIte, reduceCtorEq, Nat.reduceAdd, Nat.reduceMul, Nat.reduceLeDiff, h3d])) | ((refine zqd _ rfl (fun hc => ?_) (fun hc => ?_)) <;> (first | (cases hc; done) | ((try simp only [] at hc); (try (exfalso; omega))))) | (refine J _ ?_; clear J K))
  refine z0x (PC.borrow c8 rfl 6 (z00 (z36 5 rfl (z00 (z0w _ 2 rfl (z00 (z1d (e := 3) 2 ?_ z41 (z02 1 rfl)) (z00 (z05 (e := 27) 1 ?_ z0k (z04 _)) z0c))) (z00 (z0w _ 2 rfl (z00 (z05 (e := 27) 1 ?_ z0k (z04 _)) (z00 (z05 (e := 27) 1 ?_ z0k (z04 _)) z0c))) (z00 (z0w _ 2 rfl (z00 (z05 (e := 27) 1 ?_ z0k (z04 _)) (z00 (z05 (e := 27) 1 ?_ z0k (z04 _)) (z00 (z05 (e := 23) 1 ?_ z1n rfl) (z00 (z05 (e := 27) 1 ?_ z0k (z04 _)) z0c))))) z0c)))) z0c)) ?_
  all_goals try (focus ((simp (disch := omega) only [go_sem, Nat.reduceBEq, z0a]); done))
  (try (simp (disch := omega) only [go_sem, Nat.reduceBEq])); repeat' (first | refine nxt ?_ | ((first | refine zqh fun K J => ?_ | refine zqe (by decide +kernel) fun K J => ?_ | refine zqt (c9) ?_ | refine zqt (c10) ?_); (simp (disch := omega) only [go_sem, Nat.reduceBEq, Nat.reduceEqDiff, ↓reduceIte, Nat.reduceAdd, Nat.reduceLeDiff])) | ((refine zqd _ rfl (fun hc => ?_) (fun hc => ?_)) <;> (first | (cases hc; done) | ((try simp only [] at hc); (try (exfalso; omega))))) | refine zqu (by (simp (disch := omega) only [go_sem, Nat.reduceBEq, ↓reduceIte, Nat.reduceLeDiff]); rfl) rfl ?_ | (refine J _ ?_; clear J K))
  refine z07 ?_ (Le.refl _)
  simp only [pureD, pureD.pureL, z04, Bool.and_self]
 ·rw [if_neg hw]
  repeat' (first | ((refine zqh fun K J => ?_); (simp (disch := omega) only [go_sem, Nat.reduceBEq, ↓reduceIte, reduceCtorEq, Nat.reduceAdd, Nat.reduceMul, Nat.reduceLeDiff])) | (refine J _ ?_; clear J K))
  refine z0x (PC.borrow c7 rfl 6 (z00 (z36 5 rfl (z00 (z0w _ 2 rfl (z00 (z05 (e := 27) 1 ?_ z0k (z04 _)) z0c)) (z00 (z0w _ 2 rfl (z00 (z05 (e := 27) 1 ?_ z0k (z04 _)) (z00 (z05 (e := 23) 1 ?_ z1n rfl) (z00 (z05 (e := 23) 1 ?_ z1n rfl) z0c)))) z0c))) z0c)) ?_
  all_goals try (focus ((simp (disch := omega) only [go_sem, Nat.reduceBEq, z0a]); done))
  (try (simp (disch := omega) only [go_sem, Nat.reduceBEq])); repeat' (first | refine nxt ?_ | ((first | refine zqh fun K J => ?_ | refine zqs (c1) ?_ | refine zqs (c2) ?_ | refine zqs (c3) ?_ | refine zqs (c4) ?_ | refine zqs (c5) ?_ | refine zqs (c6) ?_); (simp (disch := omega) only [go_sem, Nat.reduceBEq, ↓reduceIte, reduceCtorEq, Nat.reduceAdd, Nat.reduceMul, Nat.reduceLeDiff, h3d])) | ((refine zqd _ rfl (fun hc => ?_) (fun hc => ?_)) <;> (first | (cases hc; done) | ((try simp only [] at hc); (try (exfalso; omega))))) | (refine J _ ?_; clear J K))
  refine z0x (PC.borrow c8 rfl 6 (z00 (z36 5 rfl (z00 (z0w _ 2 rfl (z00 (z1d (e := 3) 2 ?_ z41 (z02 1 rfl)) (z00 (z05 (e := 27) 1 ?_ z0k (z04 _)) z0c))) (z00 (z0w _ 2 rfl (z00 (z05 (e := 27) 1 ?_ z0k (z04 _)) (z00 (z05 (e := 27) 1 ?_ z0k (z04 _)) z0c))) (z00 (z0w _ 2 rfl (z00 (z05 (e := 27) 1 ?_ z0k (z04 _)) (z00 (z05 (e := 27) 1 ?_ z0k (z04 _)) (z00 (z05 (e := 23) 1 ?_ z1n rfl) (z00 (z05 (e := 27) 1 ?_ z0k (z04 _)) z0c))))) z0c)))) z0c)) ?_
  all_goals try (focus ((simp (disch := omega) only [go_sem, Nat.reduceBEq, z0a]); done))
  (try (simp (disch := omega) only [go_sem, Nat.reduceBEq])); repeat' (first | refine nxt ?_ | ((refine zqh fun K J => ?_); (simp (disch := omega) only [go_sem, Nat.reduceBEq, ↓reduceIte, Nat.reduceAdd, Nat.reduceLeDiff])) | ((refine zqd _ rfl (fun hc => ?_) (fun hc => ?_)) <;> (((try simp only [z09] at hc); (try (exfalso; omega))))) | refine zqu (by (simp (disch := omega) only [go_sem, Nat.reduceBEq, ↓reduceIte, Nat.reduceAdd, Nat.reduceLeDiff]); rfl) rfl ?_ | (refine J _ ?_; clear J K))
  exact z07 rfl (Le.tup ⟨z0u, Le.refl _, trivial⟩)
theorem zzz (u : T) (hu : szB u = true) (cu : cntT u <= 1000000) (du : depT u <= 1000000) (id parent : Idv) (i : Int) :
  PC Tryz.prog 100 [z0h u, z19 id, z19 parent, .int .i64 i] (.tup [z0h (if z49 u id parent i = 0 then z1g parent (z7j i.toNat (z06 id u).1) (z0o id u) else T.zero), .int .i64 (z49 u id parent i)]) := by
 have hx := z4p id u hu
 have hr := zxm (id := id) u hu
 have dr : depT (z0o id u) <= depT u := zps u
 have dx : depT (z06 id u).1 <= depT u := zpt id u
 have hp := z4p parent (z0o id u) hr
 have hpk := (z9c hp).1
 have ha := zfj parent (z0o id u)
 have c1 := z5q u hu (by omega) (by omega)
 have c2 := z48 id u hu
 have c3 := zy2 u hu parent
 have c4 := zy2 (z06 id u).1 hx parent
 have c5 := ziv id u hu
 have c6 := z48 parent (z0o id u) hr
 have c7 := zjt (z06 parent (z0o id u)).1.kind (z06 id u).1.kind
 have c8 := zh0 (z06 parent (z0o id u)).1.kids hpk (z06 id u).1.kind (z06 id u).1.label (z06 id u).1.id true
 rw [zl0] at c8
 have c9 := zrp (z0o id u) hr (by omega) parent
 have c10 := zga (z06 id u).1 hx (by omega)
 refine z14 3 (by simp only [pureD.pureL, z01, pureD, Bool.and_self]; rfl) (by simp only [pureD.pureL, z01, pureD, Bool.and_self]) (z10 [3000081, 3000085, 3000086, 5000087, 3000089, 5000090] Tryz.func100 rfl (by decide +kernel) z0e (by decide +kernel) (by simp [Tryz.ntmps100]) ?_)
 show awp _ _ (Code.seq _ _) _ _
 rw [show Tryz.f100.results.toList = [.cell 8 27, .tmp 9] from rfl]
 by_cases s1 : standsT u = false
 ·rw [show z49 u id parent i = 1 from by unfold z49; rw [if_pos s1], if_neg (by decide)]
  rw [s1] at c1
  repeat' (first | refine nxt ?_ | ((first | refine zqh fun K J => ?_ | refine zqs (c1) ?_); (simp (disch := omega) only [go_sem, Nat.reduceBEq, ↓reduceIte, Nat.reduceAdd, Nat.reduceLeDiff])) | ((refine zqd _ rfl (fun hc => ?_) (fun hc => ?_)) <;> (first | (cases hc; done) | ((try simp only [] at hc); (try (exfalso; omega))))) | refine zqu (by (simp (disch := omega) only [go_sem, Nat.reduceBEq, ↓reduceIte, Nat.reduceAdd, Nat.reduceLeDiff]); rfl) rfl ?_ | (refine J _ ?_; clear J K))
  exact z07 rfl (Le.tup ⟨z0u, Le.refl _, trivial⟩)
 by_cases s2 : (z06 id u).2 = false \/ (z06 parent u).2 = false
 ·rw [show z49 u id parent i = 4 from by unfold z49; rw [if_neg s1, if_pos s2], if_neg (by decide)]
  rw [Bool.not_eq_false] at s1
  rw [s1] at c1
  rcases s2 with h | h
  ·rw [h] at c2
   repeat' (first | refine nxt ?_ | ((first | refine zqh fun K J => ?_ | refine zqs (c1) ?_ | refine zqs (c2) ?_); (simp (disch := omega) only [go_sem, Nat.reduceBEq, ↓reduceIte, Nat.reduceAdd, Nat.reduceLeDiff])) | ((refine zqd _ rfl (fun hc => ?_) (fun hc => ?_)) <;> (first | (cases hc; done) | ((try simp only [] at hc); (try (exfalso; omega))))) | refine zqu (by (simp (disch := omega) only [go_sem, Nat.reduceBEq, ↓reduceIte, Nat.reduceAdd, Nat.reduceLeDiff]); rfl) rfl ?_ | (refine J _ ?_; clear J K))
   exact z07 rfl (Le.tup ⟨z0u, Le.refl _, trivial⟩)
  ·rw [h] at c3
   repeat' (first | refine nxt ?_ | ((first | refine zqh fun K J => ?_ | refine zqs (c1) ?_ | refine zqs (c2) ?_ | refine zqs (c3) ?_); (simp (disch := omega) only [go_sem, Nat.reduceBEq, ↓reduceIte, Nat.reduceAdd, Nat.reduceLeDiff])) | ((refine zqd _ rfl (fun hc => ?_) (fun hc => ?_)) <;> (first | (cases hc; done) | ((try simp only [] at hc); (try (exfalso; omega))))) | refine zqu (by (simp (disch := omega) only [go_sem, Nat.reduceBEq, ↓reduceIte, Nat.reduceAdd, Nat.reduceLeDiff]); rfl) rfl ?_ | (refine J _ ?_; clear J K) | (refine zqf (fun hb => ?_) (fun hb => ?_) <;> (have hb2 := hb; try simp only [z09] at hb2) <;> ((have F : (_ : Bool) = _ := hb2); (simp (disch := omega) only [go_sem, Nat.reduceBEq, ↓reduceIte, Nat.reduceAdd, Nat.reduceLeDiff, F]); clear hb F; (try (exfalso; omega)))))
   all_goals exact z07 rfl (Le.tup ⟨z0u, Le.refl _, trivial⟩)
 have e0 : z49 u id parent i = (if u.id = id \/ (z06 parent (z06 id u).1).2 = true then 9 else
   if z1w (z06 parent (z0o id u)).1.kind (z06 id u).1.kind = false then 9 else
   if i < 0 \/ ((z06 parent (z0o id u)).1.kids.length : Int) < i then 3 else
   if z3a (z06 parent (z0o id u)).1.kids (z06 id u).1.kind (z06 id u).1.label = true then 10 else
   if zhp (z0o id u) (z06 parent (z0o id u)).1 parent (z06 id u).1 = true then 6 else 0) := by
  unfold z49; rw [if_neg s1, if_neg s2]
 rw [Bool.not_eq_false] at s1
 simp only [not_or, Bool.not_eq_false] at s2
 obtain ⟨s2a, s2b⟩ := s2
 rw [s1] at c1
 rw [s2a] at c2
 rw [s2b] at c3
 by_cases s3 : u.id = id \/ (z06 parent (z06 id u).1).2 = true
 ·rw [show z49 u id parent i = 9 from by rw [e0, if_pos s3], if_neg (by decide)]
  by_cases h : u.id = id
  ·have V : decide (u.id = id) = true := decide_eq_true h
   repeat' (first | refine nxt ?_ | ((first | refine zqh fun K J => ?_ | refine zqs (c1) ?_ | refine zqs (c2) ?_ | refine zqs (c3) ?_); (simp (disch := omega) only [go_sem, Nat.reduceBEq, ↓reduceIte, reduceCtorEq, Nat.reduceAdd, Nat.reduceLeDiff, V])) | ((refine zqd _ rfl (fun hc => ?_) (fun hc => ?_)) <;> (first | (cases hc; done) | ((try simp only [] at hc); (try (exfalso; omega))))) | refine zqu (by (simp (disch := omega) only [go_sem, Nat.reduceBEq, ↓reduceIte, Nat.reduceAdd, Nat.reduceLeDiff]); rfl) rfl ?_ | (refine J _ ?_; clear J K))
   exact z07 rfl (Le.tup ⟨z0u, Le.refl _, trivial⟩)
  ·have V : decide (u.id = id) = false := decide_eq_false h
   rw [s3.resolve_left h] at c4
   repeat' (first | refine nxt ?_ | ((first | refine zqh fun K J => ?_ | refine zqs (c1) ?_ | refine zqs (c2) ?_ | refine zqs (c3) ?_ | refine zqs (c4) ?_); (simp (disch := omega) only [go_sem, Nat.reduceBEq, ↓reduceIte, reduceCtorEq, Nat.reduceAdd, Nat.reduceLeDiff, V])) | ((refine zqd _ rfl (fun hc => ?_) (fun hc => ?_)) <;> (first | (cases hc; done) | ((try simp only [] at hc); (try (exfalso; omega))))) | refine zqu (by (simp (disch := omega) only [go_sem, Nat.reduceBEq, ↓reduceIte, Nat.reduceAdd, Nat.reduceLeDiff]); rfl) rfl ?_ | (refine J _ ?_; clear J K))
   exact z07 rfl (Le.tup ⟨z0u, Le.refl _, trivial⟩)
 rw [if_neg s3] at e0
 rw [not_or, Bool.not_eq_true] at s3
 have V : decide (u.id = id) = false := decide_eq_false s3.1
 rw [s3.2] at c4
 repeat' (first | refine nxt ?_ | ((first | refine z1r (N := 10) rfl fun K J => ?_ | refine zqs (c1) ?_ | refine zqs (c2) ?_ | refine zqs (c3) ?_ | refine zqs (c4) ?_ | refine zqs (c5) ?_ | refine zqs (c6) ?_); (simp (disch := omega) only [go_sem, Nat.reduceBEq, ↓reduceIte, reduceCtorEq, Nat.reduceAdd, Nat.reduceLeDiff, V])) | ((refine zqd _ rfl (fun hc => ?_) (fun hc => ?_)) <;> (first | (cases hc; done) | ((try simp only [] at hc); (try (exfalso; omega))))) | (refine J _ ?_; clear J K))
 (refine zvh (fun st => st.t 3 = .int .i64 i /\ st.t 6 = .ptr 2 0 /\ st.t 8 = .ptr 3 0 /\ st.t 10 = .ptr 4 0 /\ st.t 12 = .ptr 5 0 /\ st.t 13 = .ptr 6 0 /\ st.H 2 = some (.box 23 (z0a parent)) /\ st.H 3 = some (.box 27 [.int .i64 0, .int .i64 0, .int .i64 0, .int .i64 0, .str ByteArray.empty, .nil, .nil, .nil]) /\ st.H 4 = some (.box 27 (z0b (z06 id u).1)) /\ st.H 5 = some (.box 27 (z0b (z0o id u))) /\ st.H 6 = some (.box 27 (z0b (z06 parent (z0o id u)).1)) /\ st.nx = 7) ?_ ?_); rotate_left; (rintro st ⟨p3, p6, p8, p10, p12, p13, pH2, pH3, pH4, pH5, pH6, pnx⟩); rotate_left
 ·(simp (disch := omega) only [go_sem, Nat.reduceBEq, and_self, z0a])
 by_cases s4 : z1w (z06 parent (z0o id u)).1.kind (z06 id u).1.kind = false
 ·rw [show z49 u id parent i = 9 from by rw [e0, if_pos s4], if_neg (by decide)]
  rw [s4] at c7
  repeat' (first | refine nxt ?_ | ((first | refine zqh fun K J => ?_ | refine zqs (c7) ?_); (simp (disch := omega) only [go_sem, Nat.reduceBEq, ↓reduceIte, reduceCtorEq, Nat.reduceAdd, Nat.reduceLeDiff, p8, p10, p13, pH3, pH4, pH6, pnx])) | ((refine zqd _ rfl (fun hc => ?_) (fun hc => ?_)) <;> (first | (cases hc; done) | ((try simp only [] at hc); (try (exfalso; omega))))) | refine zqu (by (simp (disch := omega) only [go_sem, Nat.reduceBEq, ↓reduceIte, Nat.reduceAdd, Nat.reduceLeDiff, p8, pH3]); rfl) rfl ?_ | (refine J _ ?_; clear J K))
  exact z07 rfl (Le.tup ⟨z0u, Le.refl _, trivial⟩)
 rw [if_neg s4] at e0
 rw [Bool.not_eq_false] at s4
 rw [s4] at c7
 by_cases s5 : i < 0 \/ ((z06 parent (z0o id u)).1.kids.length : Int) < i
 ·rw [show z49 u id parent i = 3 from by rw [e0, if_pos s5], if_neg (by decide)]
  repeat' (first | refine nxt ?_ | ((first | refine zqh fun K J => ?_ | refine zqs (c7) ?_); (simp (disch := omega) only [go_sem, Nat.reduceBEq, ↓reduceIte, reduceCtorEq, Nat.reduceAdd, Nat.reduceLeDiff, p3, p8, p10, p13, pH3, pH4, pH6, pnx])) | ((refine zqd _ rfl (fun hc => ?_) (fun hc => ?_)) <;> (first | (cases hc; done) | ((try simp only [z09] at hc); (try (exfalso; omega))))) | refine zqu (by (simp (disch := omega) only [go_sem, Nat.reduceBEq, ↓reduceIte, Nat.reduceAdd, Nat.reduceLeDiff, p8, pH3]); rfl) rfl ?_ | (refine J _ ?_; clear J K) | (refine zqf (fun hb => ?_) (fun hb => ?_) <;> (have hb2 := hb; try simp only [z09] at hb2) <;> ((first | have F := eq_false hb2 | have F := eq_true hb2); (simp (disch := omega) only [go_sem, Nat.reduceBEq, ↓reduceIte, reduceCtorEq, Nat.reduceAdd, F, p3, p13, pH6, z0r]); clear hb F; (try (exfalso; omega)))))
  all_goals exact z07 rfl (Le.tup ⟨z0u, Le.refl _, trivial⟩)
 rw [if_neg s5] at e0
 by_cases s6 : z3a (z06 parent (z0o id u)).1.kids (z06 id u).1.kind (z06 id u).1.label = true
 ·rw [show z49 u id parent i = 10 from by rw [e0, if_pos s6], if_neg (by decide)]
  rw [s6] at c8
  repeat' (first | refine nxt ?_ | ((first | refine zqh fun K J => ?_ | refine zqs (c7) ?_ | refine zqs (c8) ?_); (simp (disch := omega) only [go_sem, Nat.reduceBEq, ↓reduceIte, reduceCtorEq, Nat.reduceAdd, Nat.reduceLeDiff, p3, p8, p10, p13, pH3, pH4, pH6, pnx, z0r])) | ((refine zqd _ rfl (fun hc => ?_) (fun hc => ?_)) <;> (first | (cases hc; done) | ((try simp only [z09] at hc); (try (exfalso; omega))))) | refine zqu (by (simp (disch := omega) only [go_sem, Nat.reduceBEq, ↓reduceIte, Nat.reduceAdd, Nat.reduceLeDiff, p8, pH3]); rfl) rfl ?_ | (refine J _ ?_; clear J K) | (refine zqf (fun hb => ?_) (fun hb => ?_) <;> (have hb2 := hb; try simp only [z09] at hb2) <;> ((first | have F := eq_false hb2 | have F := eq_true hb2); (simp (disch := omega) only [go_sem, Nat.reduceBEq, ↓reduceIte, reduceCtorEq, Nat.reduceAdd, F, p3, p13, pH6, z0r]); clear hb F; (try (exfalso; omega)))))
  exact z07 rfl (Le.tup ⟨z0u, Le.refl _, trivial⟩)
 rw [if_neg s6] at e0
 rw [Bool.not_eq_true] at s6
 rw [s6] at c8
 unfold zhp at e0
 by_cases s7 : 64 <= (z06 parent (z0o id u)).1.kids.length \/ 8 < (z78 parent (z0o id u)).length + 1 + depT (z06 id u).1
 ·rw [show z49 u id parent i = 6 from by rw [e0, decide_eq_true s7, if_pos rfl], if_neg (by decide)]
  repeat' (first | refine nxt ?_ | ((first | refine zqh fun K J => ?_ | refine zqe (by decide +kernel) fun K J => ?_ | refine zqs (c7) ?_ | refine zqs (c8) ?_ | refine zqt (c9) ?_ | refine zqt (c10) ?_); (simp (disch := omega) only [go_sem, Nat.reduceBEq, Nat.reduceEqDiff, ↓reduceIte, reduceCtorEq, Nat.reduceAdd, Nat.reduceLeDiff, Nat.reduceLT, p3, p8, p10, p13, pH3, pH4, pH6, pnx, z0r])) | ((refine zqd _ rfl (fun hc => ?_) (fun hc => ?_)) <;> (first | (cases hc; done) | ((try simp only [z09] at hc); (try (exfalso; omega))))) | refine zqu (by (simp (disch := omega) only [go_sem, Nat.reduceBEq, ↓reduceIte, Nat.reduceAdd, Nat.reduceLeDiff, p8, pH3]); rfl) rfl ?_ | (refine J _ ?_; clear J K) | (refine zqf (fun hb => ?_) (fun hb => ?_) <;> (have hb2 := hb; try simp only [z09] at hb2) <;> ((first | have F := eq_false hb2 | have F := eq_true hb2); (simp (disch := omega) only [go_sem, Nat.reduceBEq, Nat.reduceEqDiff, ↓reduceIte, reduceCtorEq, Nat.reduceAdd, Nat.reduceLeDiff, F, p3, p6, p12, p13, pH2, pH5, pH6, pnx, z0a, z0r]); clear hb F; (try (exfalso; omega)))))
  all_goals exact z07 rfl (Le.tup ⟨z0u, Le.refl _, trivial⟩)
 have em : z49 u id parent i = 0 := by rw [e0, decide_eq_false s7, if_neg (by simp)]
 obtain ⟨_, _, _, _, _, hwr⟩ := zjw em
 obtain ⟨hr2, hm, n, rfl, hn⟩ := zc3 hwr
 have c11 := zrn parent n (z06 id u).1 (z0o id u) hr hn
 rw [em, if_pos rfl, Int.toNat_natCast]
 repeat' (first | refine nxt ?_ | ((first | refine zqh fun K J => ?_ | refine zqe (by decide +kernel) fun K J => ?_ | refine zqs (c7) ?_ | refine zqs (c8) ?_ | refine zqt (c9) ?_ | refine zqt (c10) ?_ | refine zqs (c11) ?_); (simp (disch := omega) only [go_sem, Nat.reduceBEq, Nat.reduceEqDiff, ↓reduceIte, reduceCtorEq, Nat.reduceAdd, Nat.reduceLeDiff, Nat.reduceLT, p3, p6, p8, p10, p12, p13, pH2, pH3, pH4, pH5, pH6, pnx, z0a, z0r])) | ((refine zqd _ rfl (fun hc => ?_) (fun hc => ?_)) <;> (first | (cases hc; done) | ((try simp only [z09] at hc); (try (exfalso; omega))))) | refine zqu (by (simp (disch := omega) only [go_sem, Nat.reduceBEq, ↓reduceIte, Nat.reduceLeDiff, p8, pH3]); rfl) rfl ?_ | (refine J _ ?_; clear J K) | (refine zqf (fun hb => ?_) (fun hb => ?_) <;> (have hb2 := hb; try simp only [z09] at hb2) <;> ((first | have F := eq_false hb2 | have F := eq_true hb2); (simp (disch := omega) only [go_sem, Nat.reduceBEq, Nat.reduceEqDiff, ↓reduceIte, reduceCtorEq, Nat.reduceAdd, Nat.reduceLeDiff, F, p3, p6, p12, p13, pH2, pH5, pH6, pnx, z0a, z0r]); clear hb F; (try (exfalso; omega)))))
 refine z07 ?_ (Le.refl _)
 simp only [pureD, pureD.pureL, z04, Bool.and_self]
namespace Tr
theorem take_zero {u x : T} {id : Idv} (h1 : standsT u = true) (h2 : z06 id u = (x, true)) (h3 : ¬ u.id = id) : z5k u id = 0 := by
 unfold z5k; rw [if_neg (by rw [h1]; simp), if_neg (by rw [h2]; simp), if_neg h3]
end Tr
end
section
open Abs Facts Tr
namespace Tr
def zh1 (t : T) : T := t.setKids []
def zkm (id : Idv) (a b : T) : Prop := ∀ p ∈ z0m a, ∃ p' ∈ z0m b, p'.id = p.id /\ (p.id ≠ id -> zh1 p' = zh1 p) /\ ∀ y ∈ p.kids, ∃ y' ∈ p'.kids, y'.id = y.id
theorem zd5 : ∀ u x : T, x ∈ z0m u -> ∀ y ∈ z0m x, y ∈ z0m u := by
 refine fun u => z4x (p := fun u => ∀ x : T, x ∈ z0m u -> ∀ y ∈ z0m x, y ∈ z0m u) (fun u ih x hx y hy => ?_) u
 rw [z25, List.mem_cons] at hx
 rcases hx with rfl | hx
 ·exact hy
 ·obtain ⟨k, O, hxk⟩ := List.mem_flatMap.1 hx
  exact z2n O (ih k O x hxk y hy)
theorem zix : ∀ t : T, (z0j t).Nodup -> ∀ p ∈ z0m t, ∀ y ∈ p.kids, (z59 y.id t).1 = p.id := by
 refine z4x fun t ih hn p hp y hy => ?_
 obtain ⟨g1, g2, g3⟩ := ze2 hn
 rw [z25, List.mem_cons] at hp
 rcases hp with rfl | hp
 ·obtain ⟨i, hi, rfl⟩ := List.getElem_of_mem hy
  rw [zfs (id := p.kids[i].id) (t := p) (i := i) (fun e => g1 _ hy (e ▸ z2x _)) hi (fun j hj h => (z9a _ _).2 (g3 i j hi h (by omega) _ (z2x _))) rfl]
 ·obtain ⟨k, O, hpk⟩ := List.mem_flatMap.1 hp
  obtain ⟨i, hi, rfl⟩ := List.getElem_of_mem O
  have hyi : y.id ∈ z0j t.kids[i] := List.mem_map.2 ⟨y, zd5 _ p hpk y (z2n hy (z20 y)), rfl⟩
  have hne : ¬ t.kids[i].id = y.id := by
   intro e
   have hn2 := g2 _ O
   have key : ∀ t : T, (z0j t).Nodup -> ∀ p ∈ z0m t, ∀ y ∈ p.kids, t.id ≠ y.id := by
    intro t hn p hp y hy e
    rw [z28, List.nodup_cons] at hn
    refine hn.1 ?_
    rw [e]
    rw [z25, List.mem_cons] at hp
    rcases hp with rfl | hp
    ·exact List.mem_flatMap.2 ⟨y, hy, z2x y⟩
    ·obtain ⟨k, O, hpk⟩ := List.mem_flatMap.1 hp
     refine List.mem_flatMap.2 ⟨k, O, List.mem_map.2 ⟨y, ?_, rfl⟩⟩
     exact zd5 k p hpk y (z2n hy (z20 y))
   exact key _ hn2 p hpk y hy e
  rw [znl (id := y.id) (t := t) (i := i) (fun e => g1 _ O (e ▸ hyi)) hi (fun j hj h => (z9a _ _).2 (g3 i j hi h (by omega) _ hyi)) hne (za8.2 hyi)]
  exact ih _ O (g2 _ O) p hpk y hy
theorem zy3 (C : Ctx) {x y : T} (h : y ∈ z0m x) : y ∈ z0m (z2r C x) := by
 induction C with
 | hole => exact h
 | node t l c r ih => exact z2n (t := z2r (.node t l c r) x) (k := z2r c x) (by show _ ∈ l ++ _ :: r; simp) ih
theorem zy4 {t : T} {k : Idv} (O : k ∈ z0j t) (h0 : ¬ t.id = k) : ∃ p ∈ z0m t, ∃ y ∈ p.kids, y.id = k := by
 obtain ⟨C, q, l, x, r, e, hx, _⟩ := zpz h0 O
 refine ⟨q.setKids (l ++ x :: r), ?_, x, by show x ∈ l ++ x :: r; simp, hx⟩
 rw [e]
 exact zy3 C (z20 _)
theorem z5r {id : Idv} {a b : T} (J : zkm id a b) (ha : (z0j a).Nodup) (hb : (z0j b).Nodup) {k : Idv} (O : k ∈ z0j a) :
  (z06 k b).2 = true /\ (k ≠ id -> zh1 (z06 k a).1 = zh1 (z06 k b).1) /\ (¬ a.id = k -> (z59 k a).1 = (z59 k b).1) := by
 obtain ⟨p, hp, hpk⟩ := List.mem_map.1 O
 obtain ⟨p', hp', e1, e2, _⟩ := J p hp
 have h1 := z8b ha hp hpk
 have h2 := z8b hb hp' (e1.trans hpk)
 refine ⟨by rw [h2], fun hne => ?_, fun h0 => ?_⟩
 ·rw [h1, h2]; exact (e2 (by rw [hpk]; exact hne)).symm
 ·obtain ⟨q, hq, y, hy, hyk⟩ := zy4 O h0
  obtain ⟨q', hq', f1, _, f3⟩ := J q hq
  obtain ⟨y', hy', f4⟩ := f3 y hy
  have g1 := zix a ha q hq y hy
  have g2 := zix b hb q' hq' y' hy'
  rw [hyk] at g1
  rw [f4, hyk] at g2
  rw [g1, g2, f1]
def zhv : Ctx -> Ctx -> Ctx
 | .hole, D => D
 | .node t l c r, D => .node t l (zhv c D) r
theorem zh2 (D : Ctx) (x : T) : ∀ C, z2r (zhv C D) x = z2r C (z2r D x)
 | .hole => rfl
 | .node t l c r => by rw [zhv, z2r, zh2 D x c, z2r]
theorem zrt (D : Ctx) : ∀ C, z74 (zhv C D) = z74 C ++ z74 D
 | .hole => by simp [zhv, z74]
 | .node t l c r => by rw [zhv, z74, z74, zrt D c, List.cons_append, List.append_assoc]
theorem zmx (D : Ctx) : ∀ C, z44 (zhv C D) = z44 D ++ z44 C
 | .hole => by simp [zhv, z44]
 | .node t l c r => by rw [zhv, z44, z44, zmx D c, List.append_assoc]
theorem zmy {id : Idv} {a b : T} (h : ∀ p ∈ z0m a, p ∈ z0m b) : zkm id a b := fun p hp => ⟨p, h p hp, rfl, fun _ => rfl, fun y hy => ⟨y, hy, rfl⟩⟩
theorem zeb {id : Idv} {a b : T} (J : zkm id a b) (hid : b.id = a.id) : ∀ C, zkm id (z2r C a) (z2r C b)
 | .hole => J
 | .node t l c r => by
  have ih := zeb J hid c
  have hr : (z2r c b).id = (z2r c a).id := by
   cases c with
   | hole => exact hid
   | node t' l' c' r' => rfl
  intro p hp
  rw [z2r, z25, List.mem_cons] at hp
  rcases hp with rfl | hp
  ·refine ⟨z2r (.node t l c r) b, z20 _, rfl, fun _ => rfl, fun y hy => ?_⟩
   have hy : y ∈ l ++ z2r c a :: r := hy
   show ∃ y' ∈ l ++ z2r c b :: r, y'.id = y.id
   rcases List.mem_append.1 hy with h | h
   ·exact ⟨y, List.mem_append_left _ h, rfl⟩
   ·rcases List.mem_cons.1 h with rfl | h
    ·exact ⟨z2r c b, by simp, hr⟩
    ·exact ⟨y, List.mem_append_right _ (List.mem_cons_of_mem _ h), rfl⟩
  ·have hp : p ∈ (l ++ z2r c a :: r).flatMap z0m := hp
   rw [List.flatMap_append, List.flatMap_cons, List.mem_append, List.mem_append] at hp
   have sub : ∀ k ∈ l ++ z2r c b :: r, ∀ y ∈ z0m k, y ∈ z0m (z2r (.node t l c r) b) := fun k O y hy => z2n (t := z2r (.node t l c r) b) O hy
   rcases hp with h | h | h
   ·obtain ⟨k, O, hpk⟩ := List.mem_flatMap.1 h
    exact ⟨p, sub k (List.mem_append_left _ O) p hpk, rfl, fun _ => rfl, fun y hy => ⟨y, hy, rfl⟩⟩
   ·obtain ⟨p', hp', e⟩ := ih p h
    exact ⟨p', sub _ (by simp) p' hp', e⟩
   ·obtain ⟨k, O, hpk⟩ := List.mem_flatMap.1 h
    exact ⟨p, sub k (List.mem_append_right _ (List.mem_cons_of_mem _ O)) p hpk, rfl, fun _ => rfl, fun y hy => ⟨y, hy, rfl⟩⟩
theorem zy5 {id : Idv} (q x : T) (l r : List T) : zkm id (q.setKids (l ++ r)) (q.setKids (l ++ x :: r)) := by
 intro p hp
 have sub : ∀ k ∈ l ++ x :: r, ∀ y ∈ z0m k, y ∈ z0m (q.setKids (l ++ x :: r)) := fun k O y hy => z2n (t := q.setKids (l ++ x :: r)) O hy
 have mem : ∀ k ∈ l ++ r, k ∈ l ++ x :: r := fun k O => by
  rcases List.mem_append.1 O with h | h
  ·exact List.mem_append_left _ h
  ·exact List.mem_append_right _ (List.mem_cons_of_mem _ h)
 rw [z25, List.mem_cons] at hp
 rcases hp with rfl | hp
 ·exact ⟨_, z20 _, rfl, fun _ => rfl, fun y hy => ⟨y, mem y hy, rfl⟩⟩
 ·obtain ⟨k, O, hpk⟩ := List.mem_flatMap.1 hp
  exact ⟨p, sub k (mem k O) p hpk, rfl, fun _ => rfl, fun y hy => ⟨y, hy, rfl⟩⟩
theorem zy6 {q q' : T} (h1 : q'.id = q.id) (h2 : q'.kids = q.kids) : zkm q.id q q' := by
 intro p hp
 rw [z25, List.mem_cons] at hp
 rcases hp with rfl | hp
 ·exact ⟨q', z20 _, h1, fun h => (h rfl).elim, fun y hy => ⟨y, by rw [h2]; exact hy, rfl⟩⟩
 ·refine ⟨p, ?_, rfl, fun _ => rfl, fun y hy => ⟨y, hy, rfl⟩⟩
  rw [z25, h2]; exact List.mem_cons_of_mem _ hp
theorem ztv (id : Idv) : ∀ u : T, ∀ p ∈ z0m (z0o id u), ∃ q ∈ z0m u, p = z0o id q := by
 refine z4x fun u ih p hp => ?_
 by_cases hpu : p = z0o id u
 ·exact ⟨u, z20 u, hpu⟩
 ·have hp2 : p ∈ ((u.kids.filter (z4w id)).map (z0o id)).flatMap z0m := by
   have e : z0m (z0o id u) = z0o id u :: ((u.kids.filter (z4w id)).map (z0o id)).flatMap z0m := by
    conv => lhs; rw [z25]
    rw [show (z0o id u).kids = (u.kids.filter (z4w id)).map (z0o id) from by rw [z55]; rfl]
   rw [e, List.mem_cons] at hp
   exact hp.resolve_left hpu
  obtain ⟨k, O, hpk⟩ := List.mem_flatMap.1 hp2
  obtain ⟨k', hk', rfl⟩ := List.mem_map.1 O
  have hm := (List.mem_filter.1 hk').1
  obtain ⟨q, hq, e⟩ := ih k' hm p hpk
  exact ⟨q, z2n hm hq, e⟩
theorem ziy (id : Idv) (j : Idv) (u : T) : zkm id (z0o j u) u := by
 intro p hp
 obtain ⟨q, hq, rfl⟩ := ztv j u p hp
 refine ⟨q, hq, (z8w j q).1.symm, fun _ => ?_, fun y hy => ?_⟩
 ·unfold zh1
  obtain ⟨h1, h2, h3, h4, h5⟩ := z8w j q
  unfold T.setKids
  rw [h1, h2, h3, h4, h5]
 ·rw [z55] at hy
  obtain ⟨y', hy', rfl⟩ := List.mem_map.1 hy
  exact ⟨y', (List.mem_filter.1 hy').1, (z8w j y').1.symm⟩
theorem zec {C : Ctx} {q q' : T} (hs : standsT (z2r C q) = true) (h1 : q'.id = q.id) (h2 : q'.kind = q.kind) (h3 : q'.kids = q.kids) (ha : z3i q' = true) (hC : ctxR C (z6e q) -> ctxR C (z6e q')) : standsT (z2r C q') = true := by
 rw [z24] at hs ⊢
 obtain ⟨u1, u2, u3, u4, u5, u6⟩ := hs
 rw [z3z] at u1
 obtain ⟨hr, hp⟩ := zac C (x := q') (y := q) h1 h2
 have hi : z0j q' = z0j q := by rw [z28, z28, h1, h3]
 have V : depT q' = depT q := by rw [z4r, z4r q, h3]
 have hc : cntT q' = cntT q := by rw [<- z2c, <- z2c, hi]
 refine ⟨?_, ?_, ?_, ?_, by rw [hr, hp]; exact u5, ?_⟩
 ·rw [z3z]
  refine ⟨hC u1.1, ?_⟩
  have := u1.2
  rw [z4i] at this ⊢
  rw [h3, h2]
  simp only [Bool.and_eq_true] at this ⊢
  exact ⟨ha, this.2⟩
 ·rw [z8y] at u2 ⊢; omega
 ·rw [z5x] at u3 ⊢; omega
 ·rw [z2u, hi, <- z2u]; exact u4
 ·rw [z7z, hi, <- z7z]; exact u6
def LRP (u v : T) (id : Idv) (gone : List Idv) : Prop := standsT v = true /\ cntT v + gone.length = cntT u /\ gone.Nodup /\
 ∀ k ∈ z0j u, (z06 k v).2 = (!decide (k ∈ gone)) /\ ((z06 k v).2 = true -> k ≠ id -> zh1 (z06 k u).1 = zh1 (z06 k v).1 /\ (z59 k u).1 = (z59 k v).1)
theorem ztw {u : T} {id : Idv} (h : z5k u id = 0) : LRP u (z0o id u) id (z0j (z06 id u).1) := by
 obtain ⟨h1, h2, h3⟩ := zuk h
 obtain ⟨under, n, x, d1, d2, d3, d4, d5, d6, d7, d8, d9, d10, d11, d12⟩ := zfu h1 h3 h2
 rw [d2]
 refine ⟨d4, by rw [z2c]; exact d11, z1k d5, fun k O => ?_⟩
 by_cases hx : k ∈ z0j x
 ·have : k ∉ z0j (z0o id u) := d9 k hx
  rw [z32, decide_eq_false this, decide_eq_true hx]
  exact ⟨rfl, fun h => by cases h⟩
 ·have hr : k ∈ z0j (z0o id u) := (d12 k O).resolve_left hx
  rw [z32, decide_eq_true hr, decide_eq_false hx]
  refine ⟨rfl, fun _ hne => ?_⟩
  obtain ⟨_, f2, f3⟩ := z5r (ziy id id u) (z1k d4) (z1k h1) hr
  refine ⟨(f2 hne).symm, ?_⟩
  by_cases hu : u.id = k
  ·rw [z71 hu, z71 (by rw [(z8w id u).1]; exact hu)]
  ·exact (f3 (by rw [(z8w id u).1]; exact hu)).symm
theorem lrp_move {u : T} {id parent : Idv} {m : Nat} (h : z49 u id parent m = 0) : LRP u (z1g parent (z7j m (z06 id u).1) (z0o id u)) id [] := by
 obtain ⟨h1, h2, h3, h4, h5, hw⟩ := zjw h
 obtain ⟨under, n, x, d1, d2, d3, d4, d5, d6, d7, d8, d9, d10, d11, d12⟩ := zfu h1 h4 h2
 rw [d2] at hw h5 ⊢
 simp only at hw h5 ⊢
 obtain ⟨C, q, l, r, e1, e2, e3, e4, f1, f2, f3, f4, f5, _, f7, f8⟩ := zl8 hw
 refine ⟨f1, by simp; omega, List.nodup_nil, fun k O => ?_⟩
 have hnv := z1k f1
 have hxu : x ∈ z0m u := by have := zc2 (id := id) (u := u) (by rw [d2]); rw [d2] at this; exact this
 have hxv : x ∈ z0m (z1g parent (z7j m x) (z0o id u)) := by have := zc2 (id := x.id) (u := z1g parent (z7j m x) (z0o id u)) (by rw [f3]); rw [f3] at this; exact this
 by_cases hx : k ∈ z0j x
 ·obtain ⟨a1, a2, a3⟩ := z5r (id := id) (zmy fun p hp => zd5 u x hxu p hp) (z1k d5) (z1k h1) hx
  obtain ⟨b1, b2, b3⟩ := z5r (id := id) (zmy fun p hp => zd5 _ x hxv p hp) (z1k d5) hnv hx
  refine ⟨by rw [b1]; rfl, fun _ hne => ⟨(a2 hne).symm.trans (b2 hne), ?_⟩⟩
  have hr : ¬ x.id = k := fun e => hne (e.symm.trans d3)
  exact (a3 hr).symm.trans (b3 hr)
 ·have hr : k ∈ z0j (z0o id u) := (d12 k O).resolve_left hx
  obtain ⟨a1, a2, a3⟩ := z5r (ziy id id u) (z1k d4) (z1k h1) hr
  have J : zkm id (z0o id u) (z1g parent (z7j m x) (z0o id u)) := by
   have := zeb (id := id) (zy5 q x l r) rfl C
   rw [<- e1, <- e4] at this
   exact this
  obtain ⟨b1, b2, b3⟩ := z5r J (z1k d4) hnv hr
  refine ⟨by rw [b1]; rfl, fun _ hne => ⟨(a2 hne).symm.trans (b2 hne), ?_⟩⟩
  by_cases hu : u.id = k
  ·have h0 : (z0o id u).id = k := by rw [(z8w id u).1]; exact hu
   have hv : (z1g parent (z7j m x) (z0o id u)).id = (z0o id u).id := by
    rw [e4]; conv => rhs; rw [e1]
    exact (zac C (x := q.setKids (l ++ x :: r)) (y := q.setKids (l ++ r)) rfl rfl).1
   rw [z71 hu, z71 (hv.trans h0)]
  ·have h0 : ¬ (z0o id u).id = k := by rw [(z8w id u).1]; exact hu
   exact (a3 h0).symm.trans (b3 h0)
theorem zy7 {u : T} {id : Idv} {f : T -> T} (h1 : standsT u = true) (hm : id ∈ z0j u) (hf : ∀ q : T, (f q).id = q.id /\ (f q).kids = q.kids) (hs : standsT (z1g id f u) = true) : LRP u (z1g id f u) id [] := by
 obtain ⟨C, e, hq, hpre, _⟩ := focus id u hm
 generalize (z06 id u).1 = q at e hq
 have hpost : id ∉ z44 C := (z3l (x := q) (by rw [<- e]; exact z1k h1) (hq ▸ z2x q)).2
 have e4 : z1g id f u = z2r C (f q) := by rw [e, z63 f hq C hpre hpost]
 have hi : z0j (f q) = z0j q := by rw [z28, z28 q, (hf q).1, (hf q).2]
 have hids : z0j (z1g id f u) = z0j u := by rw [e4, z2u, hi, <- z2u, <- e]
 refine ⟨hs, by rw [<- z2c, <- z2c, hids]; rfl, List.nodup_nil, fun k O => ?_⟩
 have J : zkm id u (z1g id f u) := by
  have := zeb (zy6 (hf q).1 (hf q).2) (hf q).1 C
  rw [hq, <- e, <- e4] at this
  exact this
 obtain ⟨b1, b2, b3⟩ := z5r J (z1k h1) (z1k hs) O
 refine ⟨by rw [b1]; rfl, fun _ hne => ⟨b2 hne, ?_⟩⟩
 by_cases hu : u.id = k
 ·have hv : (z1g id f u).id = u.id := by
   rw [e4]; conv => rhs; rw [e]
   cases C with
   | hole => exact (hf q).1
   | node t l c r => rfl
  rw [z71 hu, z71 (hv.trans hu)]
 ·exact b3 hu
theorem zy8 {u : T} {id : Idv} {l : List Wd} (h : z2y u id l = 0) : LRP u (z1g id (fun q => q.setWords l) u) id [] := by
 obtain ⟨h1, hm, h3, h4, h5⟩ := zk8 h
 refine zy7 h1 hm (fun q => ⟨rfl, rfl⟩) ?_
 obtain ⟨C, e, hq, hpre, _⟩ := focus id u hm
 generalize (z06 id u).1 = q at e hq h4
 have hpost : id ∉ z44 C := (z3l (x := q) (by rw [<- e]; exact z1k h1) (hq ▸ z2x q)).2
 rw [e, z63 (fun q => q.setWords l) hq C hpre hpost]
 rw [e] at h1
 refine zec h1 rfl rfl rfl ?_ (fun h => h)
 have hr := ((z24 _).1 h1).1
 rw [z3z] at hr
 have ha := (zcy hr.2).1
 unfold z3i at ha ⊢
 simp only [Bool.and_eq_true, decide_eq_true_eq] at ha ⊢
 obtain ⟨a1, a2, a3, a4, a5⟩ := ha
 refine ⟨a1, a2, a3, ?_, ?_⟩
 ·show zis l = true
  unfold zis
  rw [decide_eq_true h5, Bool.true_and, List.all_eq_true]
  intro w hw
  unfold zz7 at h3
  have := List.any_eq_false.1 h3 w hw
  simpa using this
 ·rw [if_neg h4] at a5
  rw [if_neg (show ¬ (q.setWords l).kind = 0 from h4)]; exact a5
theorem rel_ok {u : T} {id : Idv} {name : ByteArray} (h : zbu u id name = 0) : standsT u = true /\ z4e name = true /\ id ∈ z0j u /\ ¬ (z06 id u).1.kind = 0 /\ z5n u id name = false := by
 unfold zbu at h
 split at h
 ·cases h
 rename_i h1
 split at h
 ·cases h
 rename_i h2
 split at h
 ·cases h
 rename_i h3
 split at h
 ·cases h
 rename_i h4
 rw [not_or, Bool.not_eq_false, Bool.not_eq_false] at h1
 rw [Bool.not_eq_false, z32, decide_eq_true_eq] at h2
 exact ⟨h1.1, h1.2, h2, h3, by simpa using h4⟩
theorem zy9 {u : T} {id : Idv} {name : ByteArray} (h : zbu u id name = 0) : LRP u (z1g id (fun q => q.setLabel name) u) id [] := by
 obtain ⟨h1, h2, hm, h4, h5⟩ := rel_ok h
 refine zy7 h1 hm (fun q => ⟨rfl, rfl⟩) ?_
 have alone : ∀ q : T, z3i q = true -> ¬ q.kind = 0 -> z3i (q.setLabel name) = true := fun q ha O => by
  unfold z3i at ha ⊢
  simp only [Bool.and_eq_true, decide_eq_true_eq] at ha ⊢
  obtain ⟨a1, a2, a3, a4, _⟩ := ha
  refine ⟨a1, a2, a3, a4, ?_⟩
  rw [if_neg (show ¬ (q.setLabel name).kind = 0 from O)]; exact h2
 by_cases h0 : u.id = id
 ·rw [z3f h0] at h4
  rw [z7y, if_pos h0]
  refine zec (C := .hole) h1 rfl rfl rfl (alone u (zcy ((z24 u).1 h1).1).1 h4) (fun _ => trivial)
 ·obtain ⟨C, q, l, x, r, e, hx, hq, n1, n2, hf, hp⟩ := zpz h0 hm
  have hnd := z1k h1
  have hnd' := hnd
  rw [e] at hnd
  have hqs : q.id ∈ z0j (q.setKids (l ++ x :: r)) := by rw [z33]; exact List.mem_cons_self
  obtain ⟨m1, m2⟩ := z3l hnd hqs
  have hxm : id ∈ z0j (q.setKids (l ++ x :: r)) := by rw [z33]; exact List.mem_cons_of_mem _ (zfx.2 (.inr (.inl (hx ▸ z2x x))))
  obtain ⟨k1, k2⟩ := z3l hnd hxm
  have ns := (zgv (ze7 hnd)).1 id (hx ▸ z2x x)
  have hfq : z06 q.id u = (q.setKids (l ++ x :: r), true) := by rw [e, z9y hqs C m1]; exact z3f rfl
  -- the edit at x, seen from above it
  have he : z1g id (fun q => q.setLabel name) u = z2r C (q.setKids (l ++ x.setLabel name :: r)) := by
   have hC2 : u = z2r (zhv C (.node q l .hole r)) x := by rw [zh2]; exact e
   rw [hC2, z63 (fun q => q.setLabel name) hx _ ?_ ?_, zh2]; rfl
   ·rw [zrt, List.mem_append]
    rintro (h | h)
    ·exact k1 h
    ·simp only [z74, List.append_nil, List.mem_cons] at h
     rcases h with h | h
     ·exact hq h.symm
     ·exact n2 h
   ·rw [zmx, List.mem_append]
    rintro (h | h)
    ·simp only [z44, List.nil_append] at h
     exact ns.2.2 h
    ·exact k2 h
  rw [he]
  rw [hf] at h4
  have hb : z5n u id name = false := h5
  unfold z5n at hb
  rw [hp, hf, hfq] at hb
  simp only [Bool.true_and, Bool.or_eq_false_iff, decide_eq_false_iff_not] at hb
  obtain ⟨_, hb⟩ := hb
  have htk : (name, x.kind) = (name, x.kind) := rfl
  have hs := h1
  rw [e, z24] at hs
  obtain ⟨u1, u2, u3, u4, u5, u6⟩ := hs
  have hi : z0j (q.setKids (l ++ x.setLabel name :: r)) = z0j (q.setKids (l ++ x :: r)) := by
   rw [z33, z33, List.flatMap_append, List.flatMap_append, List.flatMap_cons, List.flatMap_cons, z28 (x.setLabel name), z28 x]; rfl
  have hdx : depT (x.setLabel name) = depT x := by rw [z4r, z4r x]; rfl
  obtain ⟨hr, O⟩ := zac C (x := q.setKids (l ++ x.setLabel name :: r)) (y := q.setKids (l ++ x :: r)) rfl rfl
  rw [z24]
  refine ⟨?_, ?_, ?_, ?_, by rw [hr, O]; exact u5, ?_⟩
  ·rw [z3z, zcb] at u1 ⊢
   obtain ⟨uC, ⟨a1, a2, a3, a4, a5⟩, uX⟩ := u1
   refine ⟨uC, ⟨a1, a2, a3, a4, ?_⟩, ?_⟩
   ·intro hmem
    obtain ⟨y, hy, O⟩ := List.mem_map.1 hmem
    have hy2 : y ∈ l ++ x :: r := by
     rcases List.mem_append.1 hy with h | h
     ·exact List.mem_append_left _ h
     ·exact List.mem_append_right _ (List.mem_cons_of_mem _ h)
    have := List.any_eq_false.1 hb y hy2
    simp only [Bool.and_eq_true, decide_eq_true_eq, not_and] at this
    exact this (congrArg Prod.fst O) (congrArg Prod.snd O)
   ·have := uX
    rw [z4i] at this ⊢
    simp only [Bool.and_eq_true] at this ⊢
    exact ⟨alone x this.1 h4, this.2⟩
  ·rw [z8y, zou] at u2 ⊢; omega
  ·have hc : cntT (q.setKids (l ++ x.setLabel name :: r)) = cntT (q.setKids (l ++ x :: r)) := by rw [<- z2c, <- z2c, hi]
   rw [z5x] at u3 ⊢; omega
  ·rw [z2u, hi, <- z2u]; exact u4
  ·rw [z7z, hi, <- z7z]; exact u6
theorem move_nn {u : T} {id parent : Idv} {i : Int} (h : z49 u id parent i = 0) : 0 <= i := by
 obtain ⟨_, _, _, _, _, hw⟩ := zjw h
 unfold z3d at hw
 split at hw
 ·cases hw
 split at hw
 ·cases hw
 split at hw
 ·cases hw
 split at hw
 ·cases hw
 omega
theorem zya {u : T} {id parent : Idv} {i : Int} (h : z49 u id parent i = 0) : LRP u (z1g parent (z7j i.toNat (z06 id u).1) (z0o id u)) id [] := by
 have h0 := move_nn h
 obtain ⟨m, rfl⟩ := Int.eq_ofNat_of_zero_le h0
 exact lrp_move h
end Tr
end
end Go.Proofs.YtlfohdkfpdkhhaaGreatDoor
namespace Go.Proofs.YtlfohdkfpdkhhaaGreatDoor.Lcs
section
variable {α : Type} [DecidableEq α]
def row (x : α) (f : List α -> Nat) : List α -> Nat
 | [] => 0
 | y :: ys => if x = y then max (max (f (y :: ys)) (row x f ys)) (f ys + 1) else max (f (y :: ys)) (row x f ys)
def len : List α -> List α -> Nat
 | [], _ => 0
 | x :: xs, ys => row x (len xs) ys
theorem zy0 : ∀ (a : List α), len a [] = 0
 | [] => rfl
 | _ :: _ => rfl
theorem zfh (x y : α) (xs ys : List α) : len (x :: xs) (y :: ys) = if x = y then max (max (len xs (y :: ys)) (len (x :: xs) ys)) (len xs ys + 1) else max (len xs (y :: ys)) (len (x :: xs) ys) := rfl
def at_ (a b : List α) (i k : Nat) : Nat := len (a.drop i) (b.drop k)
theorem zp0 (a b : List α) (i k : Nat) (h : a.length <= i) : at_ a b i k = 0 := by unfold at_; rw [List.drop_eq_nil_of_le h]; rfl
theorem zy1 (a b : List α) (i k : Nat) (h : b.length <= k) : at_ a b i k = 0 := by unfold at_; rw [List.drop_eq_nil_of_le h]; exact zy0 _
theorem at_step (a b : List α) (i k : Nat) (hi : i < a.length) (O : k < b.length) :
  at_ a b i k = if a[i] = b[k] then max (max (at_ a b (i + 1) k) (at_ a b i (k + 1))) (at_ a b (i + 1) (k + 1) + 1) else max (at_ a b (i + 1) k) (at_ a b i (k + 1)) := by
 unfold at_
 rw [List.drop_eq_getElem_cons hi, List.drop_eq_getElem_cons O, zfh]
theorem zkj : ∀ (a b : List α), len a b <= a.length
 | [], _ => Nat.le_refl 0
 | x :: xs, b => by
  have ih := zkj xs
  have key : ∀ b : List α, len (x :: xs) b <= xs.length + 1 := by
   intro b
   induction b with
   | nil => exact Nat.zero_le _
   | cons y ys ihb =>
    rw [zfh]
    have h1 := ih (y :: ys)
    have h2 := ih ys
    split <;> omega
  simpa using key b
theorem at_le (a b : List α) (i k : Nat) : at_ a b i k <= a.length := by
 have := zkj (a.drop i) (b.drop k)
 simp only [List.length_drop] at this
 unfold at_; omega

def tab (a b : List α) : List Int := (List.range ((a.length + 1) * (b.length + 1))).map fun p => (at_ a b (p / (b.length + 1)) (p % (b.length + 1)) : Int)
theorem idx_lt {n w i k : Nat} (hi : i < n) (O : k < w) : i * w + k < n * w := by
 have := Nat.mul_le_mul_right w (show i + 1 <= n by omega)
 rw [Nat.add_mul] at this; omega
theorem idx_inj {w i k i' k' : Nat} (O : k < w) (hk' : k' < w) (h : i * w + k = i' * w + k') : i = i' /\ k = k' := by
 have h1 : (i * w + k) / w = i := by rw [Nat.mul_comm, Nat.mul_add_div (by omega), Nat.div_eq_of_lt O]; omega
 have h2 : (i' * w + k') / w = i' := by rw [Nat.mul_comm, Nat.mul_add_div (by omega), Nat.div_eq_of_lt hk']; omega
 have : i = i' := by rw [<- h1, <- h2, h]
 subst this
 exact ⟨rfl, by omega⟩
theorem tab_len (a b : List α) : (tab a b).length = (a.length + 1) * (b.length + 1) := by simp [tab]
theorem tab_get (a b : List α) (i k : Nat) (hi : i <= a.length) (O : k <= b.length) : (tab a b)[i * (b.length + 1) + k]? = some (at_ a b i k : Int) := by
 have hlt : i * (b.length + 1) + k < (a.length + 1) * (b.length + 1) := idx_lt (by omega) (by omega)
 unfold tab
 rw [List.getElem?_map, List.getElem?_range hlt, Option.map_some]
 have h1 : (i * (b.length + 1) + k) / (b.length + 1) = i := by rw [Nat.mul_comm, Nat.mul_add_div (by omega), Nat.div_eq_of_lt (by omega)]; omega
 have h2 : (i * (b.length + 1) + k) % (b.length + 1) = k := by rw [Nat.mul_comm, Nat.mul_add_mod, Nat.mod_eq_of_lt (by omega)]
 rw [h1, h2]

def Known (a b : List α) (cs : List Int) (i k : Nat) : Prop :=
 cs.length = (a.length + 1) * (b.length + 1) /\ ∀ i' k', i' <= a.length -> k' <= b.length -> (i < i' \/ (i = i' /\ k <= k') \/ k' = b.length) -> cs[i' * (b.length + 1) + k']? = some (at_ a b i' k' : Int)
theorem known_zero (a b : List α) : Known a b (List.replicate ((a.length + 1) * (b.length + 1)) 0) a.length 0 := by
 refine ⟨by simp, fun i' k' hi O h => ?_⟩
 have hlt : i' * (b.length + 1) + k' < (a.length + 1) * (b.length + 1) := idx_lt (by omega) (by omega)
 rw [List.getElem?_replicate_of_lt hlt]
 rcases h with h | h | h
 ·omega
 ·rw [zp0 a b i' k' (by omega)]; rfl
 ·rw [zy1 a b i' k' (by omega)]; rfl
theorem known_set {a b : List α} {cs : List Int} {i k : Nat} (hi : i <= a.length) (O : k <= b.length) (h : Known a b cs i (k + 1)) : Known a b (cs.set (i * (b.length + 1) + k) (at_ a b i k : Int)) i k := by
 refine ⟨by simpa using h.1, fun i' k' hi' hk' hc => ?_⟩
 have hlt : i * (b.length + 1) + k < cs.length := by rw [h.1]; exact idx_lt (by omega) (by omega)
 by_cases he : i * (b.length + 1) + k = i' * (b.length + 1) + k'
 ·obtain ⟨rfl, rfl⟩ := idx_inj (by omega) (by omega) he
  rw [List.getElem?_set_self hlt]
 ·rw [List.getElem?_set_ne he]
  refine h.2 i' k' hi' hk' ?_
  rcases hc with hc | ⟨rfl, hc⟩ | hc
  ·exact .inl hc
  ·by_cases hkk : k = k'
   ·subst hkk; exact (he rfl).elim
   ·exact .inr (.inl ⟨rfl, by omega⟩)
  ·exact .inr (.inr hc)
theorem known_row {a b : List α} {cs : List Int} {i : Nat} (h : Known a b cs (i + 1) 0) : Known a b cs i b.length :=
 ⟨h.1, fun i' k' hi' hk' hc => h.2 i' k' hi' hk' (by omega)⟩
theorem known_all {a b : List α} {cs : List Int} (h : Known a b cs 0 0) : cs = tab a b := by
 refine List.ext_getElem? fun p => ?_
 by_cases hp : p < (a.length + 1) * (b.length + 1)
 ·have hw : 0 < b.length + 1 := by omega
  have h1 : p / (b.length + 1) <= a.length := by
   have := (Nat.div_lt_iff_lt_mul hw).2 hp; omega
  have h2 : p % (b.length + 1) <= b.length := by have := Nat.mod_lt p hw; omega
  have h3 : p / (b.length + 1) * (b.length + 1) + p % (b.length + 1) = p := Nat.div_add_mod' p _
  have h4 := h.2 _ _ h1 h2 (by
   rcases Nat.eq_zero_or_pos (p / (b.length + 1)) with h0 | h0
   ·exact .inr (.inl ⟨h0.symm, Nat.zero_le _⟩)
   ·exact .inl h0)
  have h5 := tab_get a b _ _ h1 h2
  rw [h3] at h4 h5
  rw [h4, h5]
 ·rw [List.getElem?_eq_none (by rw [h.1]; omega), List.getElem?_eq_none (by rw [tab_len]; omega)]

def good (a b : List α) (n x y : Nat) : Bool := decide (a[x]? = b[y]?) && decide (at_ a b (x + 1) (y + 1) + 1 = n)
def inRow (a b : List α) (n x y : Nat) : Option Nat := (List.range' y (b.length - y)).find? (good a b n x)
def search (a b : List α) (n k x : Nat) : Option (Nat × Nat) := (List.range' x (a.length - x)).findSome? fun x => (inRow a b n x k).map fun y => (x, y)
def next (a b : List α) (i k : Nat) : Nat × Nat := (search a b (at_ a b i k) k i).getD (a.length, b.length)
theorem inRow_end (a b : List α) (n x y : Nat) (h : b.length <= y) : inRow a b n x y = none := by
 unfold inRow; rw [show b.length - y = 0 by omega]; rfl
theorem inRow_step (a b : List α) (n x y : Nat) (h : y < b.length) : inRow a b n x y = if good a b n x y = true then some y else inRow a b n x (y + 1) := by
 unfold inRow
 rw [show b.length - y = (b.length - (y + 1)) + 1 by omega, List.range'_succ, List.find?_cons]
 split <;> simp_all
theorem search_end (a b : List α) (n k x : Nat) (h : a.length <= x) : search a b n k x = none := by
 unfold search; rw [show a.length - x = 0 by omega]; rfl
theorem search_step (a b : List α) (n k x : Nat) (h : x < a.length) : search a b n k x = match inRow a b n x k with | some y => some (x, y) | none => search a b n k (x + 1) := by
 unfold search
 rw [show a.length - x = (a.length - (x + 1)) + 1 by omega, List.range'_succ, List.findSome?_cons]
 cases inRow a b n x k <;> rfl
theorem good_ex (a b : List α) : ∀ (m i k n : Nat), a.length - i + (b.length - k) <= m -> at_ a b i k = n + 1 -> ∃ x y, i <= x /\ x < a.length /\ k <= y /\ y < b.length /\ good a b (n + 1) x y = true := by
 intro m
 induction m with
 | zero => intro i k n hm h; rw [zp0 a b i k (by omega)] at h; omega
 | succ m ih =>
  intro i k n hm h
  by_cases hi : i < a.length
  ·by_cases O : k < b.length
   ·have hs := at_step a b i k hi O
    have r1 : at_ a b (i + 1) k = n + 1 -> ∃ x y, i <= x /\ x < a.length /\ k <= y /\ y < b.length /\ good a b (n + 1) x y = true := by
     intro h1
     obtain ⟨x, y, q1, q2, q3, q4, q5⟩ := ih (i + 1) k n (by omega) h1
     exact ⟨x, y, by omega, q2, q3, q4, q5⟩
    have r2 : at_ a b i (k + 1) = n + 1 -> ∃ x y, i <= x /\ x < a.length /\ k <= y /\ y < b.length /\ good a b (n + 1) x y = true := by
     intro h1
     obtain ⟨x, y, q1, q2, q3, q4, q5⟩ := ih i (k + 1) n (by omega) h1
     exact ⟨x, y, q1, q2, by omega, q4, q5⟩
    by_cases he : a[i] = b[k]
    ·rw [if_pos he] at hs
     by_cases h3 : at_ a b (i + 1) (k + 1) + 1 = n + 1
     ·refine ⟨i, k, Nat.le_refl _, hi, Nat.le_refl _, O, ?_⟩
      unfold good
      rw [List.getElem?_eq_getElem hi, List.getElem?_eq_getElem O, he]
      simp [h3]
     ·by_cases h1 : at_ a b (i + 1) k = n + 1
      ·exact r1 h1
      ·exact r2 (by clear r1 r2 ih; omega)
    ·rw [if_neg he] at hs
     by_cases h1 : at_ a b (i + 1) k = n + 1
     ·exact r1 h1
     ·exact r2 (by clear r1 r2 ih; omega)
   ·rw [zy1 a b i k (by omega)] at h; omega
  ·rw [zp0 a b i k (by omega)] at h; omega
theorem ztu {a b : List α} {n x k y : Nat} (h : inRow a b n x k = some y) : k <= y /\ y < b.length /\ good a b n x y = true := by
 unfold inRow at h
 have h1 := List.mem_of_find?_eq_some h
 have h2 := List.find?_some h
 simp only [List.mem_range'_1] at h1
 exact ⟨by omega, by omega, h2⟩
theorem zp1 {a b : List α} {n k i : Nat} {r : Nat × Nat} (h : search a b n k i = some r) : i <= r.1 /\ r.1 < a.length /\ k <= r.2 /\ r.2 < b.length /\ good a b n r.1 r.2 = true := by
 unfold search at h
 obtain ⟨x, hx, hr⟩ := List.exists_of_findSome?_eq_some h
 simp only [List.mem_range'_1] at hx
 simp only [Option.map_eq_some_iff] at hr
 obtain ⟨y, hy, rfl⟩ := hr
 obtain ⟨q1, q2, q3⟩ := ztu hy
 exact ⟨by omega, by omega, q1, q2, q3⟩
theorem search_none {a b : List α} {n k i : Nat} (h : search a b n k i = none) {x y : Nat} (hx : i <= x) (hx' : x < a.length) (hy : k <= y) (hy' : y < b.length) : good a b n x y = false := by
 unfold search at h
 rw [List.findSome?_eq_none_iff] at h
 have h1 := h x (by simp only [List.mem_range'_1]; omega)
 simp only [Option.map_eq_none_iff] at h1
 unfold inRow at h1
 rw [List.find?_eq_none] at h1
 have := h1 y (by simp only [List.mem_range'_1]; omega)
 simpa using this
theorem next_good (a b : List α) (i k n : Nat) (h : at_ a b i k = n + 1) : i <= (next a b i k).1 /\ (next a b i k).1 < a.length /\ k <= (next a b i k).2 /\ (next a b i k).2 < b.length /\ a[(next a b i k).1]? = b[(next a b i k).2]? /\ at_ a b ((next a b i k).1 + 1) ((next a b i k).2 + 1) = n := by
 unfold next
 cases hs : search a b (at_ a b i k) k i with
 | none =>
  obtain ⟨x, y, q1, q2, q3, q4, q5⟩ := good_ex a b _ i k n (Nat.le_refl _) h
  rw [h] at hs
  rw [search_none hs q1 q2 q3 q4] at q5; cases q5
 | some r =>
  obtain ⟨q1, q2, q3, q4, q5⟩ := zp1 hs
  unfold good at q5
  simp only [Bool.and_eq_true, decide_eq_true_eq] at q5
  rw [Option.getD_some]
  exact ⟨q1, q2, q3, q4, q5.1, by omega⟩
def pairsF (a b : List α) : Nat -> Nat -> Nat -> List (Nat × Nat)
 | 0, _, _ => []
 | n + 1, i, k => next a b i k :: pairsF a b n ((next a b i k).1 + 1) ((next a b i k).2 + 1)
def pairsFrom (a b : List α) (i k : Nat) : List (Nat × Nat) := pairsF a b (at_ a b i k) i k
theorem pairsFrom_nil (a b : List α) (i k : Nat) (h : at_ a b i k = 0) : pairsFrom a b i k = [] := by unfold pairsFrom; rw [h]; rfl
theorem pairsFrom_cons (a b : List α) (i k : Nat) (h : 0 < at_ a b i k) : pairsFrom a b i k = next a b i k :: pairsFrom a b ((next a b i k).1 + 1) ((next a b i k).2 + 1) := by
 obtain ⟨n, hn⟩ : ∃ n, at_ a b i k = n + 1 := ⟨at_ a b i k - 1, by omega⟩
 have h1 := (next_good a b i k n hn).2.2.2.2.2
 unfold pairsFrom
 rw [hn, h1]; rfl
def pairs (a b : List α) : List (Nat × Nat) := if 256 < a.length \/ 256 < b.length then [] else pairsFrom a b 0 0
end
end Go.Proofs.YtlfohdkfpdkhhaaGreatDoor.Lcs
namespace Go.Proofs.YtlfohdkfpdkhhaaGreatDoor
section
open Abs Facts
theorem zq7 {α β : Type} (f : α -> β) (l : List α) (i : Nat) (x : α) : (l.map f).set i (f x) = (l.set i x).map f := by simp
attribute [local irreducible] awp
theorem pc36 (i k w : Nat) (cs : List Int) (v : Int) (hv : cs[i * w + k]? = some v) (hc : cs.length <= 100000) : PC Tryz.prog 199 [.int .i64 i, .int .i64 k, .rptr (zkv cs), .rptr (.int .i64 w)] (.int .i64 v) := by
 obtain ⟨hlt, hv'⟩ := List.getElem?_eq_some_iff.1 hv
 refine z14 1 (by simp only [pureD.pureL, pureD, z8f, Bool.and_self]) rfl (z10 [] Tryz.func199 rfl (by decide +kernel) z0e (by decide +kernel) (by simp [Tryz.ntmps199]) ?_)
 show awp _ _ (Code.seq _ _) _ _
 have w1 : IntKind.i64.wrap ((i : Int) * (w : Int)) = ((i * w : Nat) : Int) := by rw [<- Int.natCast_mul]; exact z69 (by omega)
 have w2 : IntKind.i64.wrap (((i * w : Nat) : Int) + (k : Int)) = ((i * w + k : Nat) : Int) := by rw [<- Int.natCast_add]; exact z69 (by omega)
 have i1 := z7m (D.int .i64) cs _ hlt
 (refine zqh fun K J => ?_); (simp only [go_sem, Nat.reduceBEq, Nat.reduceBeqDiff, Nat.reduceEqDiff, ↓reduceIte, reduceCtorEq, Nat.reduceAdd, Nat.reduceMul, Nat.reduceLeDiff, Nat.reduceLT, Int.reduceLT, Int.reduceLE, Int.reduceEq]); (refine J _ ?_); (clear J K)
 (refine zqh fun K J => ?_); (simp only [go_sem, Nat.reduceBEq, Nat.reduceBeqDiff, Nat.reduceEqDiff, ↓reduceIte, reduceCtorEq, Nat.reduceAdd, Nat.reduceMul, Nat.reduceLeDiff, Nat.reduceLT, Int.reduceLT, Int.reduceLE, Int.reduceEq, zkv, w1, w2, i1]); (refine J _ ?_); (clear J K)
 (refine zqn ?_); (refine Exists.intro _ (And.intro rfl ?_))
 exact z1j hv'
end
end Go.Proofs.YtlfohdkfpdkhhaaGreatDoor
