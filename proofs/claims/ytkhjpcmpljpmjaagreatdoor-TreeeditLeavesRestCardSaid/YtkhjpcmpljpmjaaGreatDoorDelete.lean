/-
 slices.Delete at units, over concrete worlds. The library's own text is walked.
-/
import Derived.Test.YtkhjpcmpljpmjaaGreatDoorCopyRun
set_option maxRecDepth 100000
set_option linter.unusedSimpArgs false
set_option linter.unusedVariables false
namespace Go.Proofs.YtkhjpcmpljpmjaaGreatDoor
open Abs Facts Go.Lib Go.Shelf Go.RowKit
theorem step_append_runI {P : Program} {ops : Array Oper} {o : Oper} {a : Act} {w : World} {K : Act → World → Prop} {Q : Exit → Act → World → Prop} {E : Prop}
  (hg : o.guard = none) (d x : Operand) (dT sT : TypeId) (hop : o.op = Op.call { callee := Callee.builtin Builtin.append, args := #[d, x], argTypes := #[dT, sT] })
  (v u : Value) (hd : a.eval d = v) (hx : a.eval x = u) {v' : Value} {w' : World} (hr : (Builtin.append_ #[dT, sT] o.type #[v, u]).run P w = .ok v' w') (hK : K (a.put o.dst v') w') :
  if Region.wanted o (yielded ops a.tmps) = true then Oper.wp P o a w K Q else E := by
 have hw : Region.wanted o (yielded ops a.tmps) = true := by simp [Region.wanted, hg]
 rw [if_pos hw]
 unfold Oper.wp
 simp [execOp, hop, resolve, invoke, builtin, hd, hx, hr, Result.andThen]
 exact hK
theorem del_list {α : Type} {A M C R : List α} {i k m : Nat} (zs : List α) (hA : A.length = i) (hM : M.length = k) (hC : C.length = m) (hz : zs.length = k) :
  let c1 := (A ++ M ++ C ++ R).take i ++ C ++ (A ++ M ++ C ++ R).drop (i + m)
  c1.take (i + m) ++ zs ++ c1.drop (i + m + k) = A ++ C ++ zs ++ R := by
 intro c1
 have h1 : (A ++ M ++ C ++ R).take i = A := by rw [List.append_assoc, List.append_assoc, List.take_append_of_le_length (by omega), List.take_of_length_le (by omega)]
 have hl : (A ++ M ++ C ++ R).length = i + k + m + R.length := by simp only [List.length_append]; omega
 have hc : c1 = A ++ C ++ (A ++ M ++ C ++ R).drop (i + m) := by show _ ++ C ++ _ = _; rw [h1]
 have hac : (A ++ C).length = i + m := by rw [List.length_append]; omega
 rw [hc]
 have e1 : (A ++ C ++ (A ++ M ++ C ++ R).drop (i + m)).take (i + m) = A ++ C := by rw [List.take_append_of_le_length (by omega), List.take_of_length_le (by omega)]
 have e2 : (A ++ C ++ (A ++ M ++ C ++ R).drop (i + m)).drop (i + m + k) = R := by
  rw [List.drop_append, List.drop_of_length_le (by omega), List.nil_append, hac, Nat.add_sub_cancel_left, List.drop_drop, List.drop_append, List.drop_of_length_le (by simp only [List.length_append]; omega), List.nil_append]
  have : i + m + k - (A ++ M ++ C).length = 0 := by simp only [List.length_append]; omega
  rw [this, List.drop_zero]
 rw [e1, e2]
set_option maxHeartbeats 4000000 in
theorem del_row {w : World} {g n cap i j : Nat} {cur : Array Value} {A M C R : List Value} (hij : i < j) (hj : j ≤ n) (hnc : n ≤ cap) (hc63 : cap ≤ 9223372036854775807)
  (hg : w.heap[g]? = some (.cells cur 27 (0, 0))) (hcur : cur.toList = A ++ M ++ C ++ R) (hA : A.length = i * 8) (hM : M.length = (j - i) * 8) (hC : C.length = (n - j) * 8) (h1c : ∀ v ∈ C, v.oneCell' = true) :
  Calls Tryz.prog 101 #[.slice (some ⟨g, 0, none⟩) n cap, .int .i64 i, .int .i64 j] w fun e w2 => e = .returned (.slice (some ⟨g, 0, none⟩) (i + (n - j)) cap) ∧ ∃ zs : List Value, zs.length = (j - i) * 8 ∧ w2 = w.drew.setRow g (A ++ C ++ zs ++ R).toArray := by
 have t25 : Tryz.prog.underlying 25 = some (.slice 27) := rfl
 have hsz : (Tryz.prog.info? 27).map (·.size) = some 8 := rfl
 obtain ⟨i0, z, hi0, hz0, hzs⟩ := hasZero_some (P := Tryz.prog) (t := 27) (by kernel_rfl)
 have hi8 : i0.size = 8 := by rw [hi0] at hsz; simpa using hsz
 have hzs8 : z.cells.size = 8 := by rw [hzs]; exact sizeT27
 have hzv : ∀ w, (zeroValue 27).run Tryz.prog w = .ok z w := fun w => by simp [zeroValue, typeInfo, hi0, hz0]
 have hsl : cur.size = i * 8 + (j - i) * 8 + (n - j) * 8 + R.length := by rw [← Array.length_toList, hcur]; simp only [List.length_append]; omega
 obtain ⟨ad, had, hsrc⟩ : ∃ ad : Addr, (if cap = j then some (⟨g, 0, none⟩ : Addr) else some ⟨g, j * 8, none⟩) = some ad ∧ ∀ t u, C[t]? = some u → w.drew.cell? (ad.add t) = some u := by
  by_cases h : cap = j
  ·refine ⟨⟨g, 0, none⟩, by simp [h], fun t u hu => ?_⟩
   have : C = [] := List.eq_nil_of_length_eq_zero (by rw [hC]; omega)
   rw [this] at hu; simp at hu
  ·refine ⟨⟨g, j * 8, none⟩, by simp [h], fun t u hu => ?_⟩
   rw [Addr.add_lit]
   show w.cell? _ = _
   have h2 : cur.toList[j * 8 + t]? = some u := by
    rw [hcur, List.append_assoc, List.getElem?_append_right (by simp only [List.length_append]; omega)]
    have h3 : j * 8 + t - (A ++ M).length = t := by simp only [List.length_append]; omega
    rw [h3, List.getElem?_append_left ((List.getElem?_eq_some_iff.1 hu).1)]
    exact hu
   simp only [World.cell?, hg]
   simpa using h2
 obtain ⟨c1, hc1⟩ : ∃ c1, c1 = (A ++ M ++ C ++ R).take (i * 8) ++ C ++ (A ++ M ++ C ++ R).drop (i * 8 + (n - j) * 8) := ⟨_, rfl⟩
 have hcl : c1.length = cur.size := by
  rw [hc1]; simp only [List.length_append, List.length_take, List.length_drop]; omega
 have hap : ∀ ty dc, (Builtin.append_ #[25, 25] ty #[.slice (some ⟨g, 0, none⟩) i cap, .slice (some ad) (n - j) dc]).run Tryz.prog w.drew = .ok (.slice (some ⟨g, 0, none⟩) (i + (n - j)) cap) (w.drew.setRow g c1.toArray) := fun ty dc => by
  have h := run_append_room (P := Tryz.prog) w.drew 25 ty 27 i0 t25 hi0 g i cap cur hg ad (n - j) dc C (by rw [hC, hi8]) hsrc h1c (by omega) (by rw [hi8]; omega)
  rw [hi8, hcur, hC, ← hc1] at h
  exact h
 have hg1 : (w.drew.setRow g c1.toArray).heap[g]? = some (.cells c1.toArray 27 (0, 0)) := by
  have hgg : w.drew.heap[g]? = some (.cells cur 27 (0, 0)) := hg
  simp [World.setRow, Array.getElem?_modify, hgg]
 obtain ⟨zs, hzl, hze⟩ : ∃ zs : List Value, zs.length = (j - i) * 8 ∧ zs = (Builtin.zeroCells z.cells (n - (i + (n - j)))).toList := ⟨_, by rw [Array.length_toList, size_zeroCells, hzs8]; congr 1; omega, rfl⟩
 have hz1 : ∀ v ∈ z.cells.toList, v.oneCell' = true := by
  have h : (Tryz.prog.info? 27).bind (·.zero) = some z := by rw [hi0]; exact hz0
  have hk : ((Tryz.prog.info? 27).bind (·.zero)).all (fun z => z.cells.toList.all (·.oneCell')) = true := by kernel_rfl
  rw [h] at hk
  exact fun v hv => List.all_eq_true.1 (by simpa using hk) v hv
 have hcl2 : ∀ ty dc, (Builtin.clear_ #[25] ty #[.slice (some ⟨g, (i + (n - j)) * 8, none⟩) (n - (i + (n - j))) dc]).run Tryz.prog (w.drew.setRow g c1.toArray) = .ok (.tuple #[]) (w.drew.setRow g (A ++ C ++ zs ++ R).toArray) := fun ty dc => by
  have h := run_clear_row (P := Tryz.prog) (w.drew.setRow g c1.toArray) 25 27 ty z 8 g ((i + (n - j)) * 8) (n - (i + (n - j))) dc c1.toArray t25 hzv hzs8 hz1 (by omega) hg1 (by rw [List.size_toArray, hcl]; omega)
  have h2 := del_list (α := Value) (A := A) (M := M) (C := C) (R := R) (i := i * 8) (k := (j - i) * 8) (m := (n - j) * 8) zs hA hM hC hzl
  simp only at h2
  rw [← hc1] at h2
  rw [show (n - (i + (n - j))) * 8 = (j - i) * 8 by congr 1; omega, ← hze, show c1.toArray.toList = c1 from rfl, Nat.add_mul, h2, setRow_setRow] at h
  rw [Nat.add_mul]
  exact h
 have hic : i ≤ cap := by omega
 have hjc : j ≤ cap := by omega
 have hne : ¬ ((i : Int) = (j : Int)) := by omega
 have mixed : Tryz.prog.follows .mixedOrders = true := by kernel_rfl
 have hfin : ∃ zs2 : List Value, zs2.length = (j - i) * 8 ∧ w.drew.setRow g (A ++ C ++ zs ++ R).toArray = w.drew.setRow g (A ++ C ++ zs2 ++ R).toArray := ⟨zs, hzl, rfl⟩
 clear hc1 hcl hg1 hze hsrc hcur hsl
 go_enter Tryz.func101, Tryz.ntmps101
 go_wp2
 go_region_law_o (refine step_append_runI rfl _ _ 25 25 rfl (.slice (some ⟨g, 0, none⟩) i cap) (.slice (some ad) (n - j) (cap - j)) (by simp [Act.eval, Act.put]) (by simp [Act.eval, Act.put, had]) (hap _ _) ?_)
 go_wp2_with (at_builtin; refine wpList_clear_runI _ rfl _ _ rfl _ rfl (hcl2 _ _) ?_)
 all_goals (go_ret; exact ⟨rfl, zs, hzl, by simp only [List.append_assoc]⟩)
theorem delete_any {w : World} {v : Value} {n i j : Nat} {xs : List Value} (hij : i < j) (hj : j ≤ n) (hown : w.ownsRow 0 27 8 v n xs) (hox : ones xs) :
  Calls Tryz.prog 101 #[v, .int .i64 i, .int .i64 j] w fun e w' => ∃ v', e = .returned v' ∧ w'.ownsRow 0 27 8 v' (i + (n - j)) (xs.take (i * 8) ++ xs.drop (j * 8)) ∧ w.grownBy w' v.ownBlock ∧ blockOf v' = blockOf v := by
 have hxl := hown.1
 rcases hown.2 with ⟨rfl, rfl⟩ | ⟨g, cap, cur, rfl, _, hg, hnc, hcm, hcs, htake⟩
 ·omega
 ·have hA : (xs.take (i * 8)).length = i * 8 := by rw [List.length_take, hxl]; omega
  have hM : ((xs.drop (i * 8)).take ((j - i) * 8)).length = (j - i) * 8 := by rw [List.length_take, List.length_drop, hxl]; omega
  have hC : (xs.drop (j * 8)).length = (n - j) * 8 := by rw [List.length_drop, hxl]; omega
  have hcl : cur.toList.length = cap * 8 := by rw [Array.length_toList]; exact hcs
  have hcur : cur.toList = xs.take (i * 8) ++ (xs.drop (i * 8)).take ((j - i) * 8) ++ xs.drop (j * 8) ++ cur.toList.drop (n * 8) := by
   have h1 : (xs.drop (i * 8)).take ((j - i) * 8) ++ xs.drop (j * 8) = xs.drop (i * 8) := by
    have h2 : xs.drop (j * 8) = (xs.drop (i * 8)).drop ((j - i) * 8) := by rw [List.drop_drop]; congr 1; omega
    rw [h2, List.take_append_drop]
   rw [List.append_assoc (xs.take (i * 8)), h1, List.take_append_drop, ← htake, List.take_append_drop]
  refine (del_row (w := w) (g := g) (n := n) (cap := cap) hij hj hnc (by simp only [maxLen] at hcm; omega) hg hcur hA hM hC (fun u hu => hox u (List.mem_of_mem_drop hu))).mono ?_
  rintro e w2 ⟨rfl, zs, hzl, rfl⟩
  refine ⟨_, rfl, ⟨?_, .inr ⟨g, cap, (xs.take (i * 8) ++ xs.drop (j * 8) ++ zs ++ cur.toList.drop (n * 8)).toArray, rfl, Nat.zero_le _, ?_, by omega, hcm, ?_, ?_⟩⟩, ⟨rfl, rfl, rfl, by simp [World.setRow], fun k hk hne => ?_⟩, rfl⟩
  ·rw [List.length_append, hA, hC]; omega
  ·have hgg : w.drew.heap[g]? = some (.cells cur 27 (0, 0)) := hg
   simp [World.setRow, Array.getElem?_modify, hgg]
  ·rw [List.size_toArray, List.length_append, List.length_append, List.length_append, hA, hC, hzl, List.length_drop, hcl]; omega
  ·have hl : (xs.take (i * 8) ++ xs.drop (j * 8)).length = (i + (n - j)) * 8 := by rw [List.length_append, hA, hC]; omega
   show List.take _ (xs.take (i * 8) ++ xs.drop (j * 8) ++ zs ++ cur.toList.drop (n * 8)) = _
   rw [List.append_assoc (xs.take (i * 8) ++ xs.drop (j * 8))]
   exact List.take_left' hl
  ·simp only [World.setRow, Array.getElem?_modify]
   rw [if_neg (fun h => hne (by rw [Value.ownBlock, h]))]
   rfl
end Go.Proofs.YtkhjpcmpljpmjaaGreatDoor
