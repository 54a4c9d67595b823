/-
 slices.Insert at units, the three roads, over concrete worlds. The library's own text is walked.
-/
import Derived.Test.YtkhjpcmpljpmjaaGreatDoorCopyRun
set_option maxRecDepth 100000
set_option linter.unusedSimpArgs false
set_option linter.unusedVariables false
namespace Go.Proofs.YtkhjpcmpljpmjaaGreatDoor
open Abs Facts Go.Lib Go.Shelf Go.RowKit
set_option maxHeartbeats 4000000 in
theorem ins_end {w : World} {v : Value} {n m : Nat} {a : Addr} {c : Nat} {cap : Nat} {ba : Option Addr} (hm : 0 < m) (hv : v = .slice ba n cap) (v' : Value) (w' : World)
  (hr : ∀ ty, (Builtin.append_ #[25, 25] ty #[v, .slice (some a) m c]).run Tryz.prog w = .ok v' w') :
  Calls Tryz.prog 92 #[v, .int .i64 n, .slice (some a) m c] w fun e w2 => e = .returned v' ∧ w2 = w' := by
 subst hv
 have hz1 : ¬ ((m : Int) = 0) := by omega
 go_enter Tryz.func92, Tryz.ntmps92
 go_wp2_with (at_builtin; refine Lib.wpList_append_run _ rfl _ _ _ _ rfl _ _ rfl rfl _ _ (hr _) ?_)
 all_goals (go_ret; exact ⟨rfl, rfl⟩)
set_option maxHeartbeats 4000000 in
theorem ins_shift {w : World} {g n cap i m vc : Nat} {va : Addr} {cur : Array Value} {A B R vs : List Value} (hi : i < n) (hm : 0 < m) (hroom : n + m ≤ cap) (hc63 : cap ≤ 9223372036854775807)
  (hg : w.heap[g]? = some (.cells cur 27 (0, 0))) (hcur : cur.toList = A ++ B ++ R) (hA : A.length = i * 8) (hB : B.length = (n - i) * 8) (hR : m * 8 ≤ R.length)
  (hvb : va.block ≠ g) (hvl : vs.length = m * 8) (hvs : ∀ j v, vs[j]? = some v → w.cell? (va.add j) = some v) (h1c : ∀ v ∈ B, v.oneCell' = true) (h1v : ∀ v ∈ vs, v.oneCell' = true)
  (tA : TypeId) (kA : Nat) (hsa : w.shape? va.block = some (tA, kA)) (hkA : kA ≠ 0) :
  Calls Tryz.prog 92 #[.slice (some ⟨g, 0, none⟩) n cap, .int .i64 i, .slice (some va) m vc] w fun e w2 => e = .returned (.slice (some ⟨g, 0, none⟩) (n + m) cap) ∧ w2 = w.drew.setRow g (A ++ vs ++ B ++ R.drop (m * 8)).toArray := by
 have hz1 : ¬ ((m : Int) = 0) := by omega
 have hz2 : ¬ ((i : Int) = (n : Int)) := by omega
 have t25 : Tryz.prog.underlying 25 = some (.slice 27) := rfl
 have hsz : (Tryz.prog.info? 27).map (·.size) = some 8 := rfl
 have hw1 : IntKind.i64.wrap ((i : Int) + (m : Int)) = (i : Int) + (m : Int) := by rw [IntKind.wrap_i64]; omega
 have hb1 : (0 : Int) ≤ (i : Int) + (m : Int) := by omega
 have hin : i ≤ n := by omega
 have htn : ((i : Int) + (m : Int)).toNat = i + m := by omega
 have hb2 : ¬ (cap = i + m) := by omega
 have hb3 : (i : Int) ≤ (n : Int) + (m : Int) := by omega
 have hb4 : ¬ (cap = i) := by omega
 have hsl : cur.size = i * 8 + (n - i) * 8 + R.length := by rw [← Array.length_toList, hcur, List.length_append, List.length_append, hA, hB]
 have hov : ∀ lb cb, (callFunc 125 #[.slice (some va) m vc, .slice (some ⟨g, (i + m) * 8, none⟩) lb cb]).run Tryz.prog w = .ok (.value (.bool false)) w := fun lb cb => by
  rw [run_callFunc_extern Tryz.func125 (by kernel_rfl) (by kernel_rfl) (by kernel_rfl) (e := Extern.SlicesOverlaps.overlaps #[25, 25] #[4]) (by kernel_rfl),
   run_overlaps_own w 25 4 27 t25 8 (fun _ => rfl) va ⟨g, (i + m) * 8, none⟩ m vc lb cb hvb tA 27 kA cur.size hsa (by simp [World.shape?, hg]) hkA (by simp [World.frozen?, hg]) (by simp [World.frozen?, hg])]
  rfl
 have hcp1 : ∀ ty dc sc, (Builtin.copy_ #[25, 25] ty #[.slice (some ⟨g, (i + m) * 8, none⟩) (n + m - (i + m)) dc, .slice (some ⟨g, i * 8, none⟩) (n + m - i) sc]).run Tryz.prog w.drew = .ok (goInt (Nat.min (n + m - i) (n + m - (i + m)))) (w.drew.setRow g ((A ++ B ++ R).take (i * 8 + m * 8) ++ B ++ (A ++ B ++ R).drop (i * 8 + m * 8 + (n - i) * 8)).toArray) := fun ty dc sc => by
  have h := run_copy_row (P := Tryz.prog) w.drew 25 25 ty 27 8 g ((i + m) * 8) (n + m - (i + m)) dc cur ⟨g, i * 8, none⟩ (n + m - i) sc B t25 hsz (by rw [hB]; congr 1; simp only [Nat.min_def]; split <;> omega)
   (fun j v hj => by
    rw [Addr.add_lit]
    show w.cell? _ = _
    have : cur.toList[i * 8 + j]? = some v := by rw [hcur, List.append_assoc, List.getElem?_append_right (by omega), hA, Nat.add_sub_cancel_left, List.getElem?_append_left ((List.getElem?_eq_some_iff.1 hj).1)]; exact hj
    simp only [World.cell?, hg]
    simpa using this) hg (by omega) h1c
  rw [hcur, hB, Nat.add_mul] at h
  rw [Nat.add_mul]
  exact h
 obtain ⟨c1, hc1⟩ : ∃ c1, c1 = (A ++ B ++ R).take (i * 8 + m * 8) ++ B ++ (A ++ B ++ R).drop (i * 8 + m * 8 + (n - i) * 8) := ⟨_, rfl⟩
 rw [← hc1] at hcp1
 have hg1 : (w.drew.setRow g c1.toArray).heap[g]? = some (.cells c1.toArray 27 (0, 0)) := by
  have hgg : w.drew.heap[g]? = some (.cells cur 27 (0, 0)) := hg
  simp [World.setRow, Array.getElem?_modify, hgg]
 have hcl : c1.length = cur.size := by
  rw [hc1, List.length_append, List.length_append, List.length_take, List.length_drop, List.length_append, List.length_append, hA, hB, hsl]; omega
 have hcp2 : ∀ ty dc, (Builtin.copy_ #[25, 25] ty #[.slice (some ⟨g, i * 8, none⟩) (n + m - i) dc, .slice (some va) m vc]).run Tryz.prog (w.drew.setRow g c1.toArray) = .ok (goInt (Nat.min m (n + m - i))) (w.drew.setRow g (A ++ vs ++ B ++ R.drop (m * 8)).toArray) := fun ty dc => by
  have h := run_copy_row (P := Tryz.prog) (w.drew.setRow g c1.toArray) 25 25 ty 27 8 g (i * 8) (n + m - i) dc c1.toArray va m vc vs t25 hsz (by rw [hvl]; congr 1; simp only [Nat.min_def]; split <;> omega)
   (fun j v hj => by
    rw [World.cell?_of_block (w := w)]
    ·exact hvs j v hj
    ·show (w.drew.setRow g c1.toArray).heap[(va.add j).block]? = _
     have : (va.add j).block = va.block := by unfold Addr.add; split <;> rfl
     rw [this]
     simp only [World.setRow, Array.getElem?_modify]
     rw [if_neg (fun h => hvb h.symm)]
     rfl) hg1 (by simp; omega) h1v
  have h2 := shift_list (α := Value) (A := A) (B := B) (R := R) (vs := vs) (i := i * 8) (k := (n - i) * 8) (m := m * 8) hA hB hvl hR
  simp only at h2
  rw [← hc1] at h2
  rw [hvl, show c1.toArray.toList = c1 from rfl, h2, setRow_setRow] at h
  exact h
 clear hc1 hg1 hcl
 have mixed : Tryz.prog.follows .mixedOrders = true := by kernel_rfl
 go_enter Tryz.func92, Tryz.ntmps92
 go_wp2_with (simp only [hov])
 go_region_law_o (refine step_copy_runI rfl _ _ 25 25 rfl _ _ (by simp [Act.eval, Act.put]) (by simp [Act.eval, Act.put]) (hcp1 _ _ _) ?_)
 go_wp2_with (at_builtin; refine wpList_copy_runI _ rfl _ _ 25 25 rfl _ _ rfl rfl (hcp2 _ _) ?_)
 all_goals (go_ret; exact ⟨rfl, by simp only [List.append_assoc]⟩)
def GrewTo (w : World) (k : Nat) (xs : List Value) (e : Ending) (w2 : World) : Prop :=
 ∃ G Y, e = .returned (.slice (some ⟨w.heap.size, 0, none⟩) k G) ∧ k ≤ G ∧ G ≤ maxLen ∧ Y.length = (G - k) * 8 ∧
  w2.heap = w.heap.push (.cells (xs ++ Y).toArray 27 (0, 0)) ∧ w2.os = w.os ∧ w2.tape = w.tape ∧ w2.output = w.output
set_option maxHeartbeats 4000000 in
theorem ins_grow {w : World} {g n cap i m vc : Nat} {va : Addr} {A B vs : List Value} (hi : i < n) (hm : 0 < m) (hnc : n ≤ cap) (hroom : cap < n + m) (hbig : (n + m) * bytesT Tryz.prog 27 ≤ 140737488355328) (h63 : n + m ≤ maxLen)
  (hA : A.length = i * 8) (hB : B.length = (n - i) * 8) (hcs : ∀ j v, (A ++ B)[j]? = some v → w.cell? ⟨g, j, none⟩ = some v)
  (hvl : vs.length = m * 8) (hvs : ∀ j v, vs[j]? = some v → w.cell? (va.add j) = some v) (h1c : ∀ v ∈ B, v.oneCell' = true) (h1v : ∀ v ∈ vs, v.oneCell' = true) :
  Calls Tryz.prog 92 #[.slice (some ⟨g, 0, none⟩) n cap, .int .i64 i, .slice (some va) m vc] w (GrewTo w (n + m) (A ++ vs ++ B)) := by
 have hz1 : ¬ ((m : Int) = 0) := by omega
 have hz2 : ¬ ((i : Int) = (n : Int)) := by omega
 have hz3 : (cap : Int) < (n : Int) + (m : Int) := by omega
 have t25 : Tryz.prog.underlying 25 = some (.slice 27) := rfl
 have t3 : Tryz.prog.underlying 3 = some (.int .i64) := rfl
 have hsz : (Tryz.prog.info? 27).map (·.size) = some 8 := rfl
 obtain ⟨i0, z, hi0, hz0, hzs⟩ := hasZero_some (P := Tryz.prog) (t := 27) (by kernel_rfl)
 have hi8 : i0.size = 8 := by rw [hi0] at hsz; simpa using hsz
 have hzs8 : z.cells.size = 8 := by rw [hzs]; exact sizeT27
 have hby : i0.bytes = bytesT Tryz.prog 27 := by simp [bytesT, hi0]
 have hik : i + (n + m - i) = n + m := by omega
 have hAv : ∀ j v, A[j]? = some v → w.cell? ⟨g, j, none⟩ = some v := fun j v h => hcs j v (by rw [List.getElem?_append_left ((List.getElem?_eq_some_iff.1 h).1)]; exact h)
 have hBv : ∀ j v, B[j]? = some v → w.cell? ⟨g, i * 8 + j, none⟩ = some v := fun j v h => hcs _ v (by rw [List.getElem?_append_right (by omega), hA, Nat.add_sub_cancel_left]; exact h)
 have hbw : g < w.heap.size := by
  have h0 : 0 < B.length := by rw [hB]; omega
  exact block_lt_of_cell (hBv 0 _ (List.getElem?_eq_getElem h0))
 have hvw : va.block < w.heap.size := by
  have h0 : 0 < vs.length := by rw [hvl]; omega
  have := block_lt_of_cell (hvs 0 _ (List.getElem?_eq_getElem h0))
  have h2 : (va.add 0).block = va.block := by unfold Addr.add; split <;> rfl
  rwa [h2] at this
 have hold : (Builtin.firstCells i0.size i (.slice (some ⟨g, 0, none⟩) i cap)).run Tryz.prog w.drew = .ok A.toArray w.drew := by
  rw [hi8]
  exact run_firstCells_some w.drew 8 i ⟨g, 0, none⟩ i cap A (by rw [hA]) (fun j v hj => by rw [Addr.add_lit, Nat.zero_add]; exact hAv j v hj)
 obtain ⟨G, hG⟩ : ∃ G, G = grownCap w (n + m) cap 27 := ⟨_, rfl⟩
 obtain ⟨Z, hZ⟩ : ∃ Z, Z = (Builtin.zeroCells z.cells (n + m - i) ++ Builtin.zeroCells z.cells (G - (n + m))).toList := ⟨_, rfl⟩
 have hGn : n + m ≤ G := by rw [hG]; exact grownCap_ge w _ _ _
 have hG63 : G ≤ maxLen := by rw [hG]; exact grownCap_le_maxLen w (n + m) cap 27 h63
 have hZl : Z.length = (G - i) * 8 := by
  rw [hZ, Array.length_toList, Array.size_append, size_zeroCells, size_zeroCells, hzs8, ← Nat.add_mul]; congr 1; omega
 have hrz : ∀ ty, (Builtin.append_ #[25, 3] ty #[.slice (some ⟨g, 0, none⟩) i cap, .int .i64 ((n : Int) + (m : Int) - (i : Int))]).run Tryz.prog w =
   .ok (.slice (some ⟨w.heap.size, 0, none⟩) (n + m) G) (w.drew.alloc (.cells (A ++ Z).toArray 27)) := fun ty => by
  have h := Lib.run_append_grow_zeros (P := Tryz.prog) w 25 3 ty 27 i0 z .i64 .i64 t25 t3 hi0 hz0 (some ⟨g, 0, none⟩) i cap A hold (n + m - i) (by omega) (by omega) (by omega) (by simp only [maxLen] at h63; omega)
   (by rw [hby]; have := Nat.mul_le_mul_right (bytesT Tryz.prog 27) (show n + m - i ≤ n + m by omega); omega) (by rw [hby, hik]; exact growslice_fits hroom hbig)
  rw [hik, ← hG] at h
  rw [show (n : Int) + (m : Int) - (i : Int) = ((n + m - i : Nat) : Int) by omega, h, hZ]
  congr 3
  apply Array.ext'
  simp
 obtain ⟨W1, hW1⟩ : ∃ W1, W1 = w.drew.alloc (.cells (A ++ Z).toArray 27) := ⟨_, rfl⟩
 have hheap : W1.heap = w.heap.push (.cells (A ++ Z).toArray 27 (0, 0)) := by rw [hW1]; rfl
 have hOb : ∀ (W : World) (x : List Value) (j : Nat) (b : Nat) (v : Value), W.heap = w.heap.push (.cells x.toArray 27 (0, 0)) → b < w.heap.size → ∀ sp, w.cell? ⟨b, j, sp⟩ = some v → W.cell? ⟨b, j, sp⟩ = some v := fun W x j b v hW hb sp h => by
  rw [World.cell?_of_block (w := w)]
  ·exact h
  ·show W.heap[b]? = _
   rw [hW, Array.getElem?_push, if_neg (by omega)]
 obtain ⟨c1, hc1⟩ : ∃ c1, c1 = (A ++ Z).take (i * 8) ++ vs ++ (A ++ Z).drop (i * 8 + m * 8) := ⟨_, rfl⟩
 have hcl : c1.length = A.length + Z.length := by
  rw [hc1, List.length_append, List.length_append, List.length_take, List.length_drop, List.length_append, hA, hvl, hZl]; omega
 obtain ⟨Y, hY⟩ : ∃ Y, Y = Z.drop (m * 8 + (n - i) * 8) := ⟨_, rfl⟩
 have hYl : Y.length = (G - (n + m)) * 8 := by rw [hY, List.length_drop, hZl]; omega
 have hrow : ∀ (W : World) (x y : List Value), W.heap = w.heap.push (.cells x.toArray 27 (0, 0)) → (W.setRow w.heap.size y.toArray).heap = w.heap.push (.cells y.toArray 27 (0, 0)) := fun W x y hW => by
  unfold World.setRow
  simp only
  rw [hW, push_modify]
 have hcpA : ∀ (W : World), W.heap = W1.heap → ∀ ty dc, (Builtin.copy_ #[25, 25] ty #[.slice (some ⟨w.heap.size, i * 8, none⟩) (n + m - i) dc, .slice (some va) m vc]).run Tryz.prog W = .ok (goInt (Nat.min m (n + m - i))) (W.setRow w.heap.size c1.toArray) := fun W hW ty dc => by
  rw [hheap] at hW
  have hgW : W.heap[w.heap.size]? = some (.cells (A ++ Z).toArray 27 (0, 0)) := by rw [hW, Array.getElem?_push, if_pos rfl]
  have h := run_copy_row (P := Tryz.prog) W 25 25 ty 27 8 w.heap.size (i * 8) (n + m - i) dc (A ++ Z).toArray va m vc vs t25 hsz (by rw [hvl]; congr 1; simp only [Nat.min_def]; split <;> omega)
   (fun j v hj => by
    have := hvs j v hj
    unfold Addr.add at this ⊢
    split at this <;> rename_i hsp <;> simp only [hsp] <;> exact hOb W _ _ _ _ hW hvw _ this) hgW (by rw [List.size_toArray, List.length_append, hA, hvl, hZl]; omega) h1v
  rw [hvl] at h
  rw [hc1]
  exact h
 have hcpB : ∀ (W : World), W.heap = (W1.setRow w.heap.size c1.toArray).heap → ∀ ty dc sc, (Builtin.copy_ #[25, 25] ty #[.slice (some ⟨w.heap.size, (i + m) * 8, none⟩) (n + m - (i + m)) dc, .slice (some ⟨g, i * 8, none⟩) (n - i) sc]).run Tryz.prog W = .ok (goInt (Nat.min (n - i) (n + m - (i + m)))) (W.setRow w.heap.size (A ++ vs ++ B ++ Y).toArray) := fun W hW ty dc sc => by
  rw [hrow W1 _ _ hheap] at hW
  have hgW : W.heap[w.heap.size]? = some (.cells c1.toArray 27 (0, 0)) := by rw [hW, Array.getElem?_push, if_pos rfl]
  have h := run_copy_row (P := Tryz.prog) W 25 25 ty 27 8 w.heap.size ((i + m) * 8) (n + m - (i + m)) dc c1.toArray ⟨g, i * 8, none⟩ (n - i) sc B t25 hsz (by rw [hB]; congr 1; simp only [Nat.min_def]; split <;> omega)
   (fun j v hj => by rw [Addr.add_lit]; exact hOb W _ _ _ _ hW hbw _ (hBv j v hj)) hgW (by rw [List.size_toArray, hcl, hA, hB, hZl]; omega) h1c
  have h2 := grow_list (α := Value) (A := A) (B := B) (Z := Z) (vs := vs) (i := i * 8) (k := (n - i) * 8) (m := m * 8) hA hB hvl (by rw [hZl]; omega)
  simp only at h2
  rw [← hc1, ← hY] at h2
  rw [hB, show c1.toArray.toList = c1 from rfl, Nat.add_mul, h2] at h
  rw [Nat.add_mul]
  exact h
 have hfin : ∀ (W : World), W.heap = (W1.setRow w.heap.size c1.toArray).heap → (W.setRow w.heap.size (A ++ vs ++ B ++ Y).toArray).heap = w.heap.push (.cells (A ++ vs ++ B ++ Y).toArray 27 (0, 0)) := fun W hW => hrow W c1 _ (hW.trans (hrow W1 _ _ hheap))
 have hGi : ¬ (G = i) := by omega
 have hGim : ¬ (G = i + m) := by omega
 have hci : ¬ (cap = i) := by omega
 have hw1 : IntKind.i64.wrap ((i : Int) + (m : Int)) = (i : Int) + (m : Int) := by simp only [maxLen] at h63; rw [IntKind.wrap_i64]; omega
 have h63b : n + m ≤ 9223372036854775807 := h63
 have hG63b : G ≤ 9223372036854775807 := hG63
 have hb1 : (0 : Int) ≤ (i : Int) + (m : Int) := by omega
 have hin : i ≤ n := by omega
 have htn : ((i : Int) + (m : Int)).toNat = i + m := by omega
 have hb3 : (i : Int) ≤ (n : Int) := by omega
 have mixed : Tryz.prog.follows .mixedOrders = true := by kernel_rfl
 have hfinal : ∀ (W : World), W.heap = (W1.setRow w.heap.size c1.toArray).heap → W.os = w.os → W.tape = w.tape → W.output = w.output → GrewTo w (n + m) (A ++ vs ++ B) (.returned (.slice (some ⟨w.heap.size, 0, none⟩) (n + m) G)) (W.setRow w.heap.size (A ++ vs ++ B ++ Y).toArray) := fun W hW h1 h2 h3 => ⟨G, Y, rfl, hGn, hG63, hYl, hfin W hW, h1, h2, h3⟩
 clear hfin
 subst hW1
 obtain ⟨r0, hr0⟩ : ∃ r0 : Array Value, r0 = (A ++ Z).toArray := ⟨_, rfl⟩
 obtain ⟨r1, hr1⟩ : ∃ r1 : Array Value, r1 = c1.toArray := ⟨_, rfl⟩
 obtain ⟨r2, hr2⟩ : ∃ r2 : Array Value, r2 = (A ++ vs ++ B ++ Y).toArray := ⟨_, rfl⟩
 simp only [← hr0, ← hr1, ← hr2] at *
 clear hcs h63 hG63 hik hold hG hZ hZl hc1 hY hrow hheap hOb hAv hBv hcl hr0 hr1 hr2 hvs
 have hE : ((w.alloc (.cells r0 27)).drew).heap = (w.drew.alloc (.cells r0 27)).heap := rfl
 have hF : (((w.alloc (.cells r0 27)).drew.setRow w.heap.size r1).drew).heap = ((w.drew.alloc (.cells r0 27)).setRow w.heap.size r1).heap := rfl
 go_enter Tryz.func92, Tryz.ntmps92
 go_wp2_with (first
  | (at_builtin; refine Lib.wpList_append_run _ rfl _ _ _ _ rfl _ _ rfl rfl _ _ (hrz _) ?_)
  | (at_builtin; refine wpList_copy_runI _ rfl _ _ 25 25 rfl _ _ rfl rfl (hcpA _ hE _ _) ?_))
 go_region_law_o (refine step_copy_runI rfl _ _ 25 25 rfl (.slice (some ⟨w.heap.size, (i + m) * 8, none⟩) (n + m - (i + m)) (G - (i + m))) (.slice (some ⟨g, i * 8, none⟩) (n - i) (cap - i)) (by simp [Act.eval, Act.put]) (by simp [Act.eval, Act.put]) (hcpB _ hF _ _ _) ?_)
 go_wp2
 all_goals (go_ret; first | exact hfinal _ hF rfl rfl rfl | (simp only [List.append_assoc] at hfinal ⊢; exact hfinal _ hF rfl rfl rfl))
set_option maxHeartbeats 1000000 in
theorem insert_any {w : World} {v : Value} {n i m vc : Nat} {va : Addr} {xs vs : List Value} (hi : i ≤ n) (hm : 0 < m) (hown : w.ownsRow 0 27 8 v n xs) (hox : ones xs)
  (hbig : (n + m) * bytesT Tryz.prog 27 ≤ 140737488355328) (h63 : n + m ≤ maxLen) (hvb : v.ownBlock ≠ some va.block)
  (hvl : vs.length = m * 8) (hvs : ∀ j u, vs[j]? = some u → w.cell? (va.add j) = some u) (h1v : ones vs) :
  Calls Tryz.prog 92 #[v, .int .i64 i, .slice (some va) m vc] w fun e w' => ∃ v', e = .returned v' ∧ w'.ownsRow 0 27 8 v' (n + m) (xs.take (i * 8) ++ vs ++ xs.drop (i * 8)) ∧ w.grownBy w' v.ownBlock ∧
   (∀ b, blockOf v' = some b → blockOf v = some b ∨ w.heap.size ≤ b) := by
 have hxl := hown.1
 obtain ⟨tA, kA, hsa, hkA⟩ : ∃ tA kA, w.shape? va.block = some (tA, kA) ∧ kA ≠ 0 := by
  have h0 : 0 < vs.length := by rw [hvl]; omega
  have h1 := hvs 0 _ (List.getElem?_eq_getElem h0)
  have h2 : (va.add 0).block = va.block := by unfold Addr.add; split <;> rfl
  unfold World.cell? at h1
  rw [h2] at h1
  unfold World.shape?
  split at h1
  ·rename_i c t fz hh
   refine ⟨t, c.size, rfl, fun h3 => ?_⟩
   split at h1
   ·cases h1
   ·rw [Array.getElem?_eq_none (by omega)] at h1; cases h1
  ·cases h1
 by_cases hin : i = n
 ·subst hin
  obtain ⟨v', w', hr, hown', hg, hbl, _⟩ := run_append_any (P := Tryz.prog) (ty := 0) (t := 25) (e := 27) rfl (by rw [sizeT27]; omega) (by kernel_rfl) (v := v) (n := i) (m := m) (xs := xs) (vs := vs) (by rw [sizeT27]; exact hown) hbig h63 (.inr ⟨va, vc, rfl, h1v, by rw [sizeT27]; exact hvl, hvs⟩)
  rw [sizeT27] at hown'
  obtain ⟨a, c, hvv⟩ := own_slice hown
  refine (ins_end (v' := v') (w' := w') hm hvv (fun ty => hr)).mono ?_
  rintro e w2 ⟨rfl, rfl⟩
  refine ⟨v', rfl, ?_, hg, hbl⟩
  rw [List.take_of_length_le (by omega), List.drop_of_length_le (by omega), List.append_nil]
  exact hown'
 ·rcases hown.2 with ⟨rfl, rfl⟩ | ⟨g, cap, cur, rfl, _, hg, hnc, hcm, hcs, htake⟩
  ·omega
  ·have hA : (xs.take (i * 8)).length = i * 8 := by rw [List.length_take, hxl]; omega
   have hB : (xs.drop (i * 8)).length = (n - i) * 8 := by rw [List.length_drop, hxl]; omega
   have hcl : cur.toList.length = cap * 8 := by rw [Array.length_toList]; exact hcs
   by_cases hroom : n + m ≤ cap
   ·refine (ins_shift (w := w) (g := g) (n := n) (cap := cap) (i := i) (m := m) (vc := vc) (va := va) (cur := cur) (A := xs.take (i * 8)) (B := xs.drop (i * 8)) (R := cur.toList.drop (n * 8)) (vs := vs) (by omega) hm hroom (by simp only [maxLen] at hcm; omega) hg
     (by rw [List.take_append_drop, ← htake, List.take_append_drop]) hA hB (by rw [List.length_drop, hcl]; omega) (fun h => hvb (by rw [Value.ownBlock, h])) hvl hvs (fun u hu => hox u (List.mem_of_mem_drop hu)) h1v tA kA hsa hkA).mono ?_
    rintro e w2 ⟨rfl, rfl⟩
    refine ⟨_, rfl, ⟨?_, .inr ⟨g, cap, (xs.take (i * 8) ++ vs ++ xs.drop (i * 8) ++ (cur.toList.drop (n * 8)).drop (m * 8)).toArray, rfl, Nat.zero_le _, ?_, hroom, hcm, ?_, ?_⟩⟩, ⟨rfl, rfl, rfl, by simp [World.setRow], fun k hk hne => ?_⟩, fun b hb => .inl hb⟩
    ·rw [List.length_append, List.length_append, hA, hB, hvl]; omega
    ·have hgg : w.drew.heap[g]? = some (.cells cur 27 (0, 0)) := hg
     simp [World.setRow, Array.getElem?_modify, hgg]
    ·rw [List.size_toArray, List.length_append, List.length_append, List.length_append, hA, hB, hvl, List.length_drop, List.length_drop, hcl]; omega
    ·exact List.take_left' (by rw [List.length_append, List.length_append, hA, hB, hvl]; omega)
    ·simp only [World.setRow, Array.getElem?_modify]
     rw [if_neg (fun h => hne (by rw [Value.ownBlock, h]))]
     rfl
   ·refine (ins_grow (w := w) (g := g) (n := n) (cap := cap) (i := i) (m := m) (vc := vc) (va := va) (A := xs.take (i * 8)) (B := xs.drop (i * 8)) (vs := vs) (by omega) hm hnc (by omega) hbig h63 hA hB
     (by rw [List.take_append_drop]; intro j u hj; have := hown.cells (g := g) rfl j u hj; rwa [Addr.add_lit, Nat.zero_add] at this) hvl hvs (fun u hu => hox u (List.mem_of_mem_drop hu)) h1v).mono ?_
    rintro e w2 ⟨G, Y, rfl, hG, hG63, hY, hh, h1, h2, h3⟩
    refine ⟨_, rfl, ⟨?_, .inr ⟨w.heap.size, G, _, rfl, Nat.zero_le _, by rw [hh, Array.getElem?_push, if_pos rfl], hG, hG63, ?_, ?_⟩⟩, ⟨h1, h2, h3, by rw [hh, Array.size_push]; omega, fun k hk hne => by rw [hh, Array.getElem?_push, if_neg (by omega)]⟩, fun b hb => .inr ?_⟩
    ·rw [List.length_append, List.length_append, hA, hB, hvl]; omega
    ·rw [List.size_toArray, List.length_append, List.length_append, List.length_append, hA, hB, hvl, hY]; omega
    ·exact List.take_left' (by rw [List.length_append, List.length_append, hA, hB, hvl]; omega)
    ·simp only [blockOf, Option.some.injEq] at hb; omega
end Go.Proofs.YtkhjpcmpljpmjaaGreatDoor
