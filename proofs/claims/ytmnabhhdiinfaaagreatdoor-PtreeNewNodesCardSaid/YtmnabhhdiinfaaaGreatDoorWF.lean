import Derived.Test.YtmnabhhdiinfaaaGreatDoorWE
/-
 Lemmas of the claim. No condition but those that each names.
-/
set_option linter.unusedSimpArgs false
set_option linter.unusedVariables false
set_option maxRecDepth 100000
set_option maxHeartbeats 8000000
set_option linter.unusedSectionVars false
namespace Go.Proofs.YtmnabhhdiinfaaaGreatDoor
open _root_.Go.Proofs.Tryz
section
open Abs Facts Go.Lib Go.Shelf Go.RowKit
set_option maxHeartbeats 4000000 in
theorem ins_endN {w : World} {v : Value} {n m : Nat} {a : Addr} {c : Nat} {cap : Nat} {ba : Option Addr} (hm : 0 < m) (hv : v = .slice ba n cap) (v' : Value) (w' : World)
  (hr : ∀ ty, (Builtin.append_ #[115, 115] ty #[v, .slice (some a) m c]).run prog w = .ok v' w') :
  Calls prog 97 #[v, .int .i64 n, .slice (some a) m c] w fun e w2 => e = .returned v' /\ w2 = w' := by
 subst hv
 have hz1 : ¬ ((m : Int) = 0) := by omega
 go_enter func97, ntmps97
 go_wp2_with (at_builtin; refine Lib.wpList_append_run _ rfl _ _ _ _ rfl _ _ rfl rfl _ _ (hr _) ?_)
 all_goals (go_ret; exact ⟨rfl, rfl⟩)
set_option maxHeartbeats 4000000 in
theorem zso {w : World} {g n cap i m vc : Nat} {va : Addr} {cur : Array Value} {A B R vs : List Value} (hi : i < n) (hm : 0 < m) (hroom : n + m <= cap) (hc63 : cap <= 9223372036854775807)
  (hg : w.heap[g]? = some (.cells cur 75 (0, 0))) (hcur : cur.toList = A ++ B ++ R) (hA : A.length = i) (hB : B.length = (n - i)) (hR : m <= R.length)
  (hvb : va.block ≠ g) (hvl : vs.length = m) (hvs : ∀ j v, vs[j]? = some v -> w.cell? (va.add j) = some v) (h1c : ∀ v ∈ B, v.oneCell' = true) (h1v : ∀ v ∈ vs, v.oneCell' = true)
  (tA : TypeId) (kA : Nat) (hsa : w.shape? va.block = some (tA, kA)) (hkA : kA ≠ 0) :
  Calls prog 97 #[.slice (some ⟨g, 0, none⟩) n cap, .int .i64 i, .slice (some va) m vc] w fun e w2 => e = .returned (.slice (some ⟨g, 0, none⟩) (n + m) cap) /\ w2 = w.drew.setRow g (A ++ vs ++ B ++ R.drop (m)).toArray := by
 have hz1 : ¬ ((m : Int) = 0) := by omega
 have hz2 : ¬ ((i : Int) = (n : Int)) := by omega
 have t25 : prog.underlying 115 = some (.slice 75) := rfl
 have hsz : (prog.info? 75).map (·.size) = some 1 := rfl
 have hw1 : IntKind.i64.wrap ((i : Int) + (m : Int)) = (i : Int) + (m : Int) := by rw [IntKind.wrap_i64]; omega
 have hb1 : (0 : Int) <= (i : Int) + (m : Int) := by omega
 have hin : i <= n := by omega
 have htn : ((i : Int) + (m : Int)).toNat = i + m := by omega
 have hb2 : ¬ (cap = i + m) := by omega
 have hb3 : (i : Int) <= (n : Int) + (m : Int) := by omega
 have hb4 : ¬ (cap = i) := by omega
 have hsl : cur.size = i + (n - i) + R.length := by rw [<- Array.length_toList, hcur, List.length_append, List.length_append, hA, hB]
 have hov : ∀ lb cb, (callFunc 149 #[.slice (some va) m vc, .slice (some ⟨g, (i + m), none⟩) lb cb]).run prog w = .ok (.value (.bool false)) w := fun lb cb => by
  rw [run_callFunc_extern func149 (by kernel_rfl) (by kernel_rfl) (by kernel_rfl) (e := Extern.SlicesOverlaps.overlaps #[115, 115] #[4]) (by kernel_rfl),
   z9k w 115 4 75 t25 1 (fun _ => rfl) va ⟨g, (i + m), none⟩ m vc lb cb hvb tA 75 kA cur.size hsa (by simp [World.shape?, hg]) hkA (by simp [World.frozen?, hg]) (by simp [World.frozen?, hg])]
  rfl
 have hcp1 : ∀ ty dc sc, (Builtin.copy_ #[115, 115] ty #[.slice (some ⟨g, (i + m), none⟩) (n + m - (i + m)) dc, .slice (some ⟨g, i, none⟩) (n + m - i) sc]).run prog w.drew = .ok (goInt (Nat.min (n + m - i) (n + m - (i + m)))) (w.drew.setRow g ((A ++ B ++ R).take (i + m) ++ B ++ (A ++ B ++ R).drop (i + m + (n - i))).toArray) := fun ty dc sc => by
  have h := z3i (P := prog) w.drew 115 115 ty 75 1 g ((i + m)) (n + m - (i + m)) dc cur ⟨g, i, none⟩ (n + m - i) sc B t25 hsz (by rw [hB]; simp only [Nat.mul_one, Nat.min_def]; split <;> omega)
   (fun j v hj => by
    rw [Addr.add_lit]
    show w.cell? _ = _
    have : cur.toList[i + j]? = some v := by rw [hcur, List.append_assoc, List.getElem?_append_right (by omega), hA, Nat.add_sub_cancel_left, List.getElem?_append_left ((List.getElem?_eq_some_iff.1 hj).1)]; exact hj
    simp only [World.cell?, hg]
    simpa using this) hg (by omega) h1c
  rw [hcur, hB] at h
  exact h
 obtain ⟨c1, hc1⟩ : ∃ c1, c1 = (A ++ B ++ R).take (i + m) ++ B ++ (A ++ B ++ R).drop (i + m + (n - i)) := ⟨_, rfl⟩
 rw [<- hc1] at hcp1
 have hg1 : (w.drew.setRow g c1.toArray).heap[g]? = some (.cells c1.toArray 75 (0, 0)) := by
  have hgg : w.drew.heap[g]? = some (.cells cur 75 (0, 0)) := hg
  simp [World.setRow, Array.getElem?_modify, hgg]
 have hcl : c1.length = cur.size := by
  rw [hc1, List.length_append, List.length_append, List.length_take, List.length_drop, List.length_append, List.length_append, hA, hB, hsl]; omega
 have hcp2 : ∀ ty dc, (Builtin.copy_ #[115, 115] ty #[.slice (some ⟨g, i, none⟩) (n + m - i) dc, .slice (some va) m vc]).run prog (w.drew.setRow g c1.toArray) = .ok (goInt (Nat.min m (n + m - i))) (w.drew.setRow g (A ++ vs ++ B ++ R.drop (m)).toArray) := fun ty dc => by
  have h := z3i (P := prog) (w.drew.setRow g c1.toArray) 115 115 ty 75 1 g (i) (n + m - i) dc c1.toArray va m vc vs t25 hsz (by rw [hvl]; simp only [Nat.mul_one, Nat.min_def]; split <;> omega)
   (fun j v hj => by
    rw [World.cell?_of_block (w := w)]
    ·exact hvs j v hj
    ·show (w.drew.setRow g c1.toArray).heap[(va.add j).block]? = _
     have : (va.add j).block = va.block := by unfold Addr.add; split <;> rfl
     rw [this]
     simp only [World.setRow, Array.getElem?_modify]
     rw [if_neg (fun h => hvb h.symm)]
     rfl) hg1 (by simp; omega) h1v
  have h2 := zi6 (α := Value) (A := A) (B := B) (R := R) (vs := vs) (i := i) (k := (n - i)) (m := m) hA hB hvl hR
  simp only at h2
  rw [<- hc1] at h2
  rw [hvl, show c1.toArray.toList = c1 from rfl, h2, z90] at h
  exact h
 clear hc1 hg1 hcl
 have z8j : prog.follows .mixedOrders = true := by kernel_rfl
 go_enter func97, ntmps97
 go_wp2_with (simp only [hov])
 go_region_law_o (refine step_copy_runI rfl _ _ 115 115 rfl _ _ (by simp [Act.eval, Act.put]) (by simp [Act.eval, Act.put]) (hcp1 _ _ _) ?_)
 go_wp2_with (at_builtin; refine wpList_copy_runI _ rfl _ _ 115 115 rfl _ _ rfl rfl (hcp2 _ _) ?_)
 all_goals (go_ret; exact ⟨rfl, by simp only [List.append_assoc]⟩)
def zwb (w : World) (k : Nat) (xs : List Value) (e : Ending) (w2 : World) : Prop :=
 ∃ G Y, e = .returned (.slice (some ⟨w.heap.size, 0, none⟩) k G) /\ k <= G /\ G <= maxLen /\ Y.length = (G - k) /\
  w2.heap = w.heap.push (.cells (xs ++ Y).toArray 75 (0, 0)) /\ w2.os = w.os /\ w2.tape = w.tape /\ w2.output = w.output
set_option maxHeartbeats 4000000 in
theorem zwc {w : World} {g n cap i m vc : Nat} {va : Addr} {A B vs : List Value} (hi : i < n) (hm : 0 < m) (hnc : n <= cap) (hroom : cap < n + m) (hbig : (n + m) * z0u prog 75 <= 140737488355328) (h63 : n + m <= maxLen)
  (hA : A.length = i) (hB : B.length = (n - i)) (hcs : ∀ j v, (A ++ B)[j]? = some v -> w.cell? ⟨g, j, none⟩ = some v)
  (hvl : vs.length = m) (hvs : ∀ j v, vs[j]? = some v -> w.cell? (va.add j) = some v) (h1c : ∀ v ∈ B, v.oneCell' = true) (h1v : ∀ v ∈ vs, v.oneCell' = true) :
  Calls prog 97 #[.slice (some ⟨g, 0, none⟩) n cap, .int .i64 i, .slice (some va) m vc] w (zwb w (n + m) (A ++ vs ++ B)) := by
 have hz1 : ¬ ((m : Int) = 0) := by omega
 have hz2 : ¬ ((i : Int) = (n : Int)) := by omega
 have hz3 : (cap : Int) < (n : Int) + (m : Int) := by omega
 have t25 : prog.underlying 115 = some (.slice 75) := rfl
 have t3 : prog.underlying 3 = some (.int .i64) := rfl
 have hsz : (prog.info? 75).map (·.size) = some 1 := rfl
 obtain ⟨i0, z, hi0, hz0, hzs⟩ := z53 (P := prog) (t := 75) (by kernel_rfl)
 have hi8 : i0.size = 1 := by rw [hi0] at hsz; simpa using hsz
 have hzs8 : z.cells.size = 1 := by rw [hzs]; exact z7h
 have hby : i0.bytes = z0u prog 75 := by simp [z0u, hi0]
 have hik : i + (n + m - i) = n + m := by omega
 have hAv : ∀ j v, A[j]? = some v -> w.cell? ⟨g, j, none⟩ = some v := fun j v h => hcs j v (by rw [List.getElem?_append_left ((List.getElem?_eq_some_iff.1 h).1)]; exact h)
 have hBv : ∀ j v, B[j]? = some v -> w.cell? ⟨g, i + j, none⟩ = some v := fun j v h => hcs _ v (by rw [List.getElem?_append_right (by omega), hA, Nat.add_sub_cancel_left]; exact h)
 have hbw : g < w.heap.size := by
  have h0 : 0 < B.length := by rw [hB]; omega
  exact block_lt_of_cell (hBv 0 _ (List.getElem?_eq_getElem h0))
 have hvw : va.block < w.heap.size := by
  have h0 : 0 < vs.length := by rw [hvl]; omega
  have := block_lt_of_cell (hvs 0 _ (List.getElem?_eq_getElem h0))
  have h2 : (va.add 0).block = va.block := by unfold Addr.add; split <;> rfl
  rwa [h2] at this
 have hold : (Builtin.firstCells i0.size i (.slice (some ⟨g, 0, none⟩) i cap)).run prog w.drew = .ok A.toArray w.drew := by
  rw [hi8]
  exact run_firstCells_some w.drew 1 i ⟨g, 0, none⟩ i cap A (by rw [hA, Nat.mul_one]) (fun j v hj => by rw [Addr.add_lit, Nat.zero_add]; exact hAv j v hj)
 obtain ⟨G, hG⟩ : ∃ G, G = grownCap w (n + m) cap 75 := ⟨_, rfl⟩
 obtain ⟨Z, hZ⟩ : ∃ Z, Z = (Builtin.zeroCells z.cells (n + m - i) ++ Builtin.zeroCells z.cells (G - (n + m))).toList := ⟨_, rfl⟩
 have hGn : n + m <= G := by rw [hG]; exact grownCap_ge w _ _ _
 have hG63 : G <= maxLen := by rw [hG]; exact grownCap_le_maxLen w (n + m) cap 75 h63
 have hZl : Z.length = (G - i) := by
  rw [hZ, Array.length_toList, Array.size_append, size_zeroCells, size_zeroCells, hzs8, <- Nat.add_mul]; congr 1; omega
 have hrz : ∀ ty, (Builtin.append_ #[115, 3] ty #[.slice (some ⟨g, 0, none⟩) i cap, .int .i64 ((n : Int) + (m : Int) - (i : Int))]).run prog w =
   .ok (.slice (some ⟨w.heap.size, 0, none⟩) (n + m) G) (w.drew.alloc (.cells (A ++ Z).toArray 75)) := fun ty => by
  have h := Lib.run_append_grow_zeros (P := prog) w 115 3 ty 75 i0 z .i64 .i64 t25 t3 hi0 hz0 (some ⟨g, 0, none⟩) i cap A hold (n + m - i) (by omega) (by omega) (by omega) (by simp only [maxLen] at h63; omega)
   (by rw [hby]; have := Nat.mul_le_mul_right (z0u prog 75) (show n + m - i <= n + m by omega); omega) (by rw [hby, hik]; exact growslice_fits hroom hbig)
  rw [hik, <- hG] at h
  rw [show (n : Int) + (m : Int) - (i : Int) = ((n + m - i : Nat) : Int) by omega, h, hZ]
  congr 3
  apply Array.ext'
  simp
 obtain ⟨W1, hW1⟩ : ∃ W1, W1 = w.drew.alloc (.cells (A ++ Z).toArray 75) := ⟨_, rfl⟩
 have hheap : W1.heap = w.heap.push (.cells (A ++ Z).toArray 75 (0, 0)) := by rw [hW1]; rfl
 have hOb : ∀ (W : World) (x : List Value) (j : Nat) (b : Nat) (v : Value), W.heap = w.heap.push (.cells x.toArray 75 (0, 0)) -> b < w.heap.size -> ∀ sp, w.cell? ⟨b, j, sp⟩ = some v -> W.cell? ⟨b, j, sp⟩ = some v := fun W x j b v hW hb sp h => by
  rw [World.cell?_of_block (w := w)]
  ·exact h
  ·show W.heap[b]? = _
   rw [hW, Array.getElem?_push, if_neg (by omega)]
 obtain ⟨c1, hc1⟩ : ∃ c1, c1 = (A ++ Z).take (i) ++ vs ++ (A ++ Z).drop (i + m) := ⟨_, rfl⟩
 have hcl : c1.length = A.length + Z.length := by
  rw [hc1, List.length_append, List.length_append, List.length_take, List.length_drop, List.length_append, hA, hvl, hZl]; omega
 obtain ⟨Y, hY⟩ : ∃ Y, Y = Z.drop (m + (n - i)) := ⟨_, rfl⟩
 have hYl : Y.length = (G - (n + m)) := by rw [hY, List.length_drop, hZl]; omega
 have hrow : ∀ (W : World) (x y : List Value), W.heap = w.heap.push (.cells x.toArray 75 (0, 0)) -> (W.setRow w.heap.size y.toArray).heap = w.heap.push (.cells y.toArray 75 (0, 0)) := fun W x y hW => by
  unfold World.setRow
  simp only
  rw [hW, zg3]
 have hcpA : ∀ (W : World), W.heap = W1.heap -> ∀ ty dc, (Builtin.copy_ #[115, 115] ty #[.slice (some ⟨w.heap.size, i, none⟩) (n + m - i) dc, .slice (some va) m vc]).run prog W = .ok (goInt (Nat.min m (n + m - i))) (W.setRow w.heap.size c1.toArray) := fun W hW ty dc => by
  rw [hheap] at hW
  have hgW : W.heap[w.heap.size]? = some (.cells (A ++ Z).toArray 75 (0, 0)) := by rw [hW, Array.getElem?_push, if_pos rfl]
  have h := z3i (P := prog) W 115 115 ty 75 1 w.heap.size (i) (n + m - i) dc (A ++ Z).toArray va m vc vs t25 hsz (by rw [hvl]; simp only [Nat.mul_one, Nat.min_def]; split <;> omega)
   (fun j v hj => by
    have := hvs j v hj
    unfold Addr.add at this ⊢
    split at this <;> rename_i hsp <;> simp only [hsp] <;> exact hOb W _ _ _ _ hW hvw _ this) hgW (by rw [List.size_toArray, List.length_append, hA, hvl, hZl]; omega) h1v
  rw [hvl] at h
  rw [hc1]
  exact h
 have hcpB : ∀ (W : World), W.heap = (W1.setRow w.heap.size c1.toArray).heap -> ∀ ty dc sc, (Builtin.copy_ #[115, 115] ty #[.slice (some ⟨w.heap.size, (i + m), none⟩) (n + m - (i + m)) dc, .slice (some ⟨g, i, none⟩) (n - i) sc]).run prog W = .ok (goInt (Nat.min (n - i) (n + m - (i + m)))) (W.setRow w.heap.size (A ++ vs ++ B ++ Y).toArray) := fun W hW ty dc sc => by
  rw [hrow W1 _ _ hheap] at hW
  have hgW : W.heap[w.heap.size]? = some (.cells c1.toArray 75 (0, 0)) := by rw [hW, Array.getElem?_push, if_pos rfl]
  have h := z3i (P := prog) W 115 115 ty 75 1 w.heap.size ((i + m)) (n + m - (i + m)) dc c1.toArray ⟨g, i, none⟩ (n - i) sc B t25 hsz (by rw [hB]; simp only [Nat.mul_one, Nat.min_def]; split <;> omega)
   (fun j v hj => by rw [Addr.add_lit]; exact hOb W _ _ _ _ hW hbw _ (hBv j v hj)) hgW (by rw [List.size_toArray, hcl, hA, hB, hZl]; omega) h1c
  have h2 := zlj (α := Value) (A := A) (B := B) (Z := Z) (vs := vs) (i := i) (k := (n - i)) (m := m) hA hB hvl (by rw [hZl]; omega)
  simp only at h2
  rw [<- hc1, <- hY] at h2
  rw [hB, show c1.toArray.toList = c1 from rfl, h2] at h
  exact h
 have hfin : ∀ (W : World), W.heap = (W1.setRow w.heap.size c1.toArray).heap -> (W.setRow w.heap.size (A ++ vs ++ B ++ Y).toArray).heap = w.heap.push (.cells (A ++ vs ++ B ++ Y).toArray 75 (0, 0)) := fun W hW => hrow W c1 _ (hW.trans (hrow W1 _ _ hheap))
 have hGi : ¬ (G = i) := by omega
 have hGim : ¬ (G = i + m) := by omega
 have hci : ¬ (cap = i) := by omega
 have hw1 : IntKind.i64.wrap ((i : Int) + (m : Int)) = (i : Int) + (m : Int) := by simp only [maxLen] at h63; rw [IntKind.wrap_i64]; omega
 have h63b : n + m <= 9223372036854775807 := h63
 have hG63b : G <= 9223372036854775807 := hG63
 have hb1 : (0 : Int) <= (i : Int) + (m : Int) := by omega
 have hin : i <= n := by omega
 have htn : ((i : Int) + (m : Int)).toNat = i + m := by omega
 have hb3 : (i : Int) <= (n : Int) := by omega
 have z8j : prog.follows .mixedOrders = true := by kernel_rfl
 have hfinal : ∀ (W : World), W.heap = (W1.setRow w.heap.size c1.toArray).heap -> W.os = w.os -> W.tape = w.tape -> W.output = w.output -> zwb w (n + m) (A ++ vs ++ B) (.returned (.slice (some ⟨w.heap.size, 0, none⟩) (n + m) G)) (W.setRow w.heap.size (A ++ vs ++ B ++ Y).toArray) := fun W hW h1 h2 h3 => ⟨G, Y, rfl, hGn, hG63, hYl, hfin W hW, h1, h2, h3⟩
 clear hfin
 subst hW1
 obtain ⟨r0, hr0⟩ : ∃ r0 : Array Value, r0 = (A ++ Z).toArray := ⟨_, rfl⟩
 obtain ⟨r1, hr1⟩ : ∃ r1 : Array Value, r1 = c1.toArray := ⟨_, rfl⟩
 obtain ⟨r2, hr2⟩ : ∃ r2 : Array Value, r2 = (A ++ vs ++ B ++ Y).toArray := ⟨_, rfl⟩
 simp only [<- hr0, <- hr1, <- hr2] at *
 clear hcs h63 hG63 hik hold hG hZ hZl hc1 hY hrow hheap hOb hAv hBv hcl hr0 hr1 hr2 hvs
 have hE : ((w.alloc (.cells r0 75)).drew).heap = (w.drew.alloc (.cells r0 75)).heap := rfl
 have hF : (((w.alloc (.cells r0 75)).drew.setRow w.heap.size r1).drew).heap = ((w.drew.alloc (.cells r0 75)).setRow w.heap.size r1).heap := rfl
 go_enter func97, ntmps97
 go_wp2_with (first
  | (at_builtin; refine Lib.wpList_append_run _ rfl _ _ _ _ rfl _ _ rfl rfl _ _ (hrz _) ?_)
  | (at_builtin; refine wpList_copy_runI _ rfl _ _ 115 115 rfl _ _ rfl rfl (hcpA _ hE _ _) ?_))
 go_region_law_o (refine step_copy_runI rfl _ _ 115 115 rfl (.slice (some ⟨w.heap.size, (i + m), none⟩) (n + m - (i + m)) (G - (i + m))) (.slice (some ⟨g, i, none⟩) (n - i) (cap - i)) (by simp [Act.eval, Act.put]) (by simp [Act.eval, Act.put]) (hcpB _ hF _ _ _) ?_)
 go_wp2
 all_goals (go_ret; first | exact hfinal _ hF rfl rfl rfl | (simp only [List.append_assoc] at hfinal ⊢; exact hfinal _ hF rfl rfl rfl))
set_option maxHeartbeats 1000000 in
theorem zo9 {w : World} {v : Value} {n i m vc : Nat} {va : Addr} {xs vs : List Value} (hi : i <= n) (hm : 0 < m) (hown : w.ownsRow 0 75 1 v n xs) (hox : z6i xs)
  (hbig : (n + m) * z0u prog 75 <= 140737488355328) (h63 : n + m <= maxLen) (hvb : v.ownBlock ≠ some va.block)
  (hvl : vs.length = m) (hvs : ∀ j u, vs[j]? = some u -> w.cell? (va.add j) = some u) (h1v : z6i vs) :
  Calls prog 97 #[v, .int .i64 i, .slice (some va) m vc] w fun e w' => ∃ v', e = .returned v' /\ w'.ownsRow 0 75 1 v' (n + m) (xs.take (i) ++ vs ++ xs.drop (i)) /\ w.grownBy w' v.ownBlock /\
   (∀ b, blockOf v' = some b -> blockOf v = some b \/ w.heap.size <= b) := by
 have hxl := hown.1
 obtain ⟨tA, kA, hsa, hkA⟩ : ∃ tA kA, w.shape? va.block = some (tA, kA) /\ kA ≠ 0 := by
  have h0 : 0 < vs.length := by rw [hvl]; omega
  have h1 := hvs 0 _ (List.getElem?_eq_getElem h0)
  have h2 : (va.add 0).block = va.block := by unfold Addr.add; split <;> rfl
  unfold World.cell? at h1
  rw [h2] at h1
  unfold World.shape?
  split at h1
  ·rename_i c t fz hh
   refine ⟨t, c.size, rfl, fun h3 => ?_⟩
   split at h1
   ·cases h1
   ·rw [Array.getElem?_eq_none (by omega)] at h1; cases h1
  ·cases h1
 by_cases hin : i = n
 ·subst hin
  obtain ⟨v', w', hr, hown', hg, hbl, _⟩ := z65 (P := prog) (ty := 0) (t := 115) (e := 75) rfl (by rw [z7h]; omega) (by kernel_rfl) (v := v) (n := i) (m := m) (xs := xs) (vs := vs) (by rw [z7h]; exact hown) hbig h63 (.inr ⟨va, vc, rfl, h1v, by rw [z7h, Nat.mul_one]; exact hvl, hvs⟩)
  rw [z7h] at hown'
  obtain ⟨a, c, hvv⟩ := z7q hown
  refine (ins_endN (v' := v') (w' := w') hm hvv (fun ty => hr)).mono ?_
  rintro e w2 ⟨rfl, rfl⟩
  refine ⟨v', rfl, ?_, hg, hbl⟩
  rw [List.take_of_length_le (by omega), List.drop_of_length_le (by omega), List.append_nil]
  exact hown'
 ·rcases hown.2 with ⟨rfl, rfl⟩ | ⟨g, cap, cur, rfl, _, hg, hnc, hcm, hcs, htake⟩
  ·omega
  ·rw [Nat.mul_one] at hcs htake
   have hA : (xs.take (i)).length = i := by rw [List.length_take, hxl]; omega
   have hB : (xs.drop (i)).length = (n - i) := by rw [List.length_drop, hxl]; omega
   have hcl : cur.toList.length = cap := by rw [Array.length_toList]; exact hcs
   by_cases hroom : n + m <= cap
   ·refine (zso (w := w) (g := g) (n := n) (cap := cap) (i := i) (m := m) (vc := vc) (va := va) (cur := cur) (A := xs.take (i)) (B := xs.drop (i)) (R := cur.toList.drop (n)) (vs := vs) (by omega) hm hroom (by simp only [maxLen] at hcm; omega) hg
     (by rw [List.take_append_drop, <- htake, List.take_append_drop]) hA hB (by rw [List.length_drop, hcl]; omega) (fun h => hvb (by rw [Value.ownBlock, h])) hvl hvs (fun u hu => hox u (List.mem_of_mem_drop hu)) h1v tA kA hsa hkA).mono ?_
    rintro e w2 ⟨rfl, rfl⟩
    refine ⟨_, rfl, ⟨?_, .inr ⟨g, cap, (xs.take (i) ++ vs ++ xs.drop (i) ++ (cur.toList.drop (n)).drop (m)).toArray, rfl, Nat.zero_le _, ?_, hroom, hcm, ?_, ?_⟩⟩, ⟨rfl, rfl, rfl, by simp [World.setRow], fun k hk hne => ?_⟩, fun b hb => .inl hb⟩
    ·rw [List.length_append, List.length_append, hA, hB, hvl]; omega
    ·have hgg : w.drew.heap[g]? = some (.cells cur 75 (0, 0)) := hg
     simp [World.setRow, Array.getElem?_modify, hgg]
    ·rw [List.size_toArray, List.length_append, List.length_append, List.length_append, hA, hB, hvl, List.length_drop, List.length_drop, hcl]; omega
    ·exact List.take_left' (by rw [List.length_append, List.length_append, hA, hB, hvl]; omega)
    ·simp only [World.setRow, Array.getElem?_modify]
     rw [if_neg (fun h => hne (by rw [Value.ownBlock, h]))]
     rfl
   ·refine (zwc (w := w) (g := g) (n := n) (cap := cap) (i := i) (m := m) (vc := vc) (va := va) (A := xs.take (i)) (B := xs.drop (i)) (vs := vs) (by omega) hm hnc (by omega) hbig h63 hA hB
     (by rw [List.take_append_drop]; intro j u hj; have := hown.cells (g := g) rfl j u hj; rwa [Addr.add_lit, Nat.zero_add] at this) hvl hvs (fun u hu => hox u (List.mem_of_mem_drop hu)) h1v).mono ?_
    rintro e w2 ⟨G, Y, rfl, hG, hG63, hY, hh, h1, h2, h3⟩
    refine ⟨_, rfl, ⟨?_, .inr ⟨w.heap.size, G, _, rfl, Nat.zero_le _, by rw [hh, Array.getElem?_push, if_pos rfl], hG, hG63, ?_, ?_⟩⟩, ⟨h1, h2, h3, by rw [hh, Array.size_push]; omega, fun k hk hne => by rw [hh, Array.getElem?_push, if_neg (by omega)]⟩, fun b hb => .inr ?_⟩
    ·rw [List.length_append, List.length_append, hA, hB, hvl]; omega
    ·rw [List.size_toArray, List.length_append, List.length_append, List.length_append, hA, hB, hvl, hY]; omega
    ·exact List.take_left' (by rw [List.length_append, List.length_append, hA, hB, hvl]; omega)
    ·simp only [blockOf, Option.some.injEq] at hb; omega
set_option maxHeartbeats 2000000 in
theorem zi9 {H : HM} {nx id n i : Nat} {nn : Bool} {cs us els : List D} (hid : H id = some (.row 75 n cs)) (hi : i <= n) (hm : 0 < els.length) (hus : z1s 1 els = some us) (hb : n + els.length <= 1000000000) :
  AC prog 97 [.osl id n, .int .i64 i, .rsl nn 1 els] H nx fun r H' nx' => r = .osl id (n + els.length) /\ H' = z0k H id (some (.row 75 (n + els.length) (cs.take (i) ++ us ++ cs.drop (i)))) /\ nx' = nx := by
 refine ⟨⟨_, func97, by kernel_rfl, by kernel_rfl⟩, fun s w vs h1 h2 h h4 => ?_⟩
 subst h1; subst h2
 simp only [relAll] at h4
 obtain ⟨v, r1, rfl, hv, v2, r2, rfl, hv2, v3, r3, rfl, hv3, rfl⟩ := h4
 simp only [rel] at hv hv2
 subst hv2
 obtain ⟨hidn, _, hlive⟩ := hv
 have hv := (hlive _ _ _ hid).2 rfl
 subst hv
 obtain ⟨xs, ho, hrv, hov, _, _⟩ := z3g h hid
 rw [z7h] at ho
 have hsrc := z6h h (e := 75) (n := 1) (m := els.length) (news := us) (by omega) (y := .rsl nn 1 els) z7h (by simp only [z9b, if_true, hus, Option.map_some]) hv3
 rcases hsrc with ⟨_, h0, _⟩ | ⟨a, c, ws, rfl, hrw, how, hwl, hwc⟩
 ·omega
 ·have hap := zml h hv3 rfl hm (by omega)
  have hbt : z0u prog 75 <= 1000 := by
   have : decide (z0u prog 75 <= 1000) = true := by kernel_rfl
   exact of_decide_eq_true this
  have hne : (s.κ id).ownBlock ≠ some a.block := by
   rw [z54 ho]
   exact fun h5 => hap ⟨id, hidn, by rw [hid]; simp, h5⟩
  refine (zo9 (w := w) (v := s.κ id) (n := n) (i := i) (m := els.length) (vc := c) (va := a) (xs := xs) (vs := ws) hi hm ho hov
   (by have := Nat.mul_le_mul hb hbt; omega) (by unfold maxLen; omega) hne (by rw [hwl, Nat.mul_one]) hwc how).mono ?_
  rintro e w' ⟨v', rfl, hown, hg, hbl⟩
  obtain ⟨g1, g2⟩ := z87 (w' := w') h id (.row 75 n cs) (.row 75 (n + els.length) (cs.take (i) ++ us ++ cs.drop (i))) v' hid hg.os hg.tape hg.output hg.size
   (fun k hk hne => hg.block k hk (by rw [z54 ho]; exact hne))
   (.inr ⟨n + els.length, _, rfl, Nat.le_add_right _ _, fun hnm => by omega⟩)
   (fun b hb => hbl b hb)
   (fun hl => ⟨xs.take (i) ++ ws ++ xs.drop (i), by rw [z7h]; exact hown, relAll.later hl _ _ (z1a (z1a (z3n _ hrv) hrw) (z5x _ hrv)), z32 (z32 (z7l hov _) how) (zag hov _)⟩)
  refine ⟨v', .osl id (n + els.length), s.set id v' (.row 75 (n + els.length) (cs.take (i) ++ us ++ cs.drop (i))), rfl, ⟨rfl, rfl, rfl⟩, g1, g2, ?_⟩
  simp only [rel]
  obtain ⟨a2, c2, hvs⟩ := z7q hown
  refine ⟨hidn, ⟨a2, c2, hvs⟩, fun e2 k2 cs2 hH => ?_⟩
  simp only [RS.set, z0k, if_true, Option.some.injEq, HObj.row.injEq] at hH
  obtain ⟨_, rfl, _⟩ := hH
  exact ⟨Nat.le_refl _, fun _ => by simp [RS.set]⟩
end
section
open Abs Facts Tr
attribute [local irreducible] awp
set_option maxRecDepth 100000
namespace Tr
theorem zkt {α : Type} (f : α -> Bool) (l : List α) (h : z2v f l < l.length) : (l.take (z2v f l + 1)).filter (fun x => !f x) = l.take (z2v f l) := by
 have hk : ∀ j (hj : j < z2v f l), f (l[j]'(by omega)) = false := fun j hj => by
  have h2 := List.getElem_mem (l := l.takeWhile fun x => !f x) (n := j) hj
  have h3 : (l.takeWhile fun x => !f x)[j]'hj = l[j]'(by omega) := List.IsPrefix.getElem (List.takeWhile_prefix _) hj
  have h4 := List.all_eq_true.1 (List.all_takeWhile (p := fun x => !f x) (l := l)) _ h2
  rw [h3] at h4; simpa using h4
 have hf : f l[z2v f l] = true := by
  cases hq : f l[z2v f l] with
  | true => rfl
  | false =>
   exfalso
   have h5 : z2v f l = (z2v f l) + 1 \/ True := .inr trivial
   have : ∀ (m : List α) (hm : (m.takeWhile fun x => !f x).length < m.length), (!f (m[(m.takeWhile fun x => !f x).length]'hm)) = false := by
    intro m
    induction m with
    | nil => intro hm; simp at hm
    | cons a m ih =>
     intro hm
     cases ha : f a with
     | true => simp [List.takeWhile, ha]
     | false =>
      have ha' : (!f a) = true := by rw [ha]; rfl
      have e : ((a :: m).takeWhile fun x => !f x) = a :: m.takeWhile fun x => !f x := by simp [List.takeWhile, ha]
      have hm2 : (m.takeWhile fun x => !f x).length < m.length := by rw [e] at hm; simpa using hm
      have := ih hm2
      simp only [e, List.length_cons, List.getElem_cons_succ]
      exact this
   have := this l h
   have h9 : (!f l[z2v f l]) = false := this
   rw [hq] at h9; cases h9
 rw [List.take_succ_eq_append_getElem h, List.filter_append]
 have h1 : (l.take (z2v f l)).filter (fun x => !f x) = l.take (z2v f l) := by
  refine List.filter_eq_self.2 fun x hx => ?_
  obtain ⟨j, hj, rfl⟩ := List.getElem_of_mem hx
  rw [List.length_take] at hj
  rw [List.getElem_take, hk j (by omega)]; rfl
 rw [h1]; simp [hf]
end Tr
theorem z9t {K : St -> Prop} {Q : Exit -> St -> Prop} {st : St} (h : K st) : zu7 K Q .normal st := h
theorem zrq {H : HM} {nx : Nat} : AC prog 180 [.nil] H nx fun r H' nx' => r = .nil /\ H' = H /\ nx' = nx := by
 refine (z14 [] func180 rfl (by decide +kernel) rfl ?_)
 show awp _ _ (Code.seq _ _) _ _
 repeat' (first | refine zqj ?_ | ((refine zqh fun K J => ?_); (simp (disch := omega) only [go_sem, Nat.reduceBEq, ↓reduceIte])) | ((refine zqd _ rfl (fun hc => ?_) (fun hc => ?_)) <;> (first | (cases hc; done) | ((try simp only [] at hc); (try omega)))) | refine zqg ?_ | refine zqu (by simp only [go_sem]; rfl) rfl ?_ | (refine J _ ?_; clear J K))
 (simp (disch := omega) only [go_sem, Nat.reduceBEq])
theorem zum {H : HM} {nx id n : Nat} {cs : List D} (hid : H id = some (.row 75 n cs)) (hlt : id < nx) (hn : n <= 1000000) (hcs : cs.length = n) :
  AC prog 180 [.osl id n] H nx fun r H' nx' => r = .osl (nx + 1) n /\ H' = z0k (z0k H nx (some row0)) (nx + 1) (some (.row 75 n cs)) /\ nx' = nx + 2 := by
 have hnb := z4h hlt
 refine zak func180 rfl (by decide +kernel) (by simp [ntmps180]) ?_
 refine Sem.seq (Sem.walk (own := [2, 5]) z8j (by decide +kernel) ?_)
 repeat' (first | ((refine zqr fun K J => ?_); (simp (disch := omega) only [go_sem, Nat.reduceBEq, ↓reduceIte])) | (refine J _ ?_; clear J K))
 refine z9t ?_
 refine Sem.seq (Sem.seq (zuu (own := []) (l1 := [_]) (e := 75) rfl (by intro o ho; simp at ho; subst ho; decide) (by decide) zk0 ?_))
 (simp (disch := omega) only [go_sem, Nat.reduceBEq])
 refine ⟨id, n, cs, rfl, by (simp (disch := omega) only [go_sem, hid, hnb]), ?_, fun h0 => ?_⟩
 ·refine z9t (Sem.cond false (by (simp (disch := omega) only [go_sem, Nat.reduceBEq])) (fun h => by cases h) fun _ => ?_)
  refine Sem.walk (own := []) z8j (by decide +kernel) (zqk (z9t ?_))
  refine Sem.walk (own := [2, 5]) z8j (by decide +kernel) ?_
  repeat' (first | ((refine zqh fun K J => ?_); (simp (disch := omega) only [go_sem, Nat.reduceBEq, ↓reduceIte, reduceCtorEq, Nat.reduceAdd, Nat.reduceLT, hid, hnb])) | refine zqn ?_ | refine zqu (by simp only [go_sem]; rfl) rfl ?_ | (refine J _ ?_; clear J K))
  (simp (disch := omega) only [go_sem, Nat.reduceBEq])
  rw [z6b]
  rfl
 ·subst h0
  have hc0 : cs = [] := List.eq_nil_of_length_eq_zero hcs
  subst hc0
  refine z9t (Sem.cond true (by (simp (disch := omega) only [go_sem, Nat.reduceBEq])) (fun _ => ?_) fun h => by cases h)
  refine Sem.walk (own := [2, 5]) z8j (by decide +kernel) ?_
  repeat' (first | ((refine zqh fun K J => ?_); (simp (disch := omega) only [go_sem, Nat.reduceBEq, ↓reduceIte])) | refine zqn ?_ | refine zqx ?_ | refine zqu (by simp only [go_sem]; rfl) rfl ?_ | (refine J _ ?_; clear J K))
  (simp (disch := omega) only [go_sem, Nat.reduceBEq])
  rfl
theorem zku {H : HM} {i : Nat} {o : HObj} (h : H i = some o) : z0k H i (some o) = H := by
 funext j; unfold z0k; split
 ·rename_i e; rw [e, h]
 ·rfl
theorem zpc {H : HM} {nx b : Nat} {i : Idv} {w : V} (hw : H w.num = some (.box 117 (z3y w))) (hb : H b = some (idB i)) (hwn : w.num < nx) (hbn : b < nx) :
  RC prog 153 [.ptr w.num 0, .ptr b 0] H nx (.bool (decide (w.own.id = i))) := by
 refine (z14 [3000008, 3000009] func153 rfl (by decide +kernel) rfl ?_)
 show awp _ _ (Code.seq _ _) _ _
 repeat' (first | ((first | refine zqh fun K J => ?_ | refine zqe (by decide +kernel) fun K J => ?_); (simp (disch := omega) only [go_sem, Nat.reduceBEq, Nat.reduceEqDiff, ↓reduceIte, reduceCtorEq, Nat.reduceAdd, Nat.reduceLeDiff, hw, hb, idB, z3y, z07])) | refine zqn ?_ | refine zqu (by simp only [go_sem]; rfl) rfl ?_ | (refine J _ ?_; clear J K))
 (simp (disch := omega) only [go_sem, Nat.reduceBEq])
theorem zun {H : HM} {nx id b : Nat} {i : Idv} {ks : List V} (hid : H id = some (rowV ks)) (hl : ks.length <= 1000000) (hb : H b = some (idB i)) (hbn : b < nx) (hks : ∀ k ∈ ks, H k.num = some (.box 117 (z3y k)) /\ k.num < nx) :
  RC prog 183 [.osl id ks.length, .fn 153 [.ptr b 0]] H nx (.int .i64 (if z2v (fun k : V => decide (k.own.id = i)) ks < ks.length then (z2v (fun k : V => decide (k.own.id = i)) ks : Int) else -1)) := by
 obtain ⟨f, hf⟩ : ∃ f : V -> Bool, f = fun k : V => decide (k.own.id = i) := ⟨_, rfl⟩
 have hc : ∀ k ∈ ks, RC prog 153 [.ptr k.num 0, .ptr b 0] H nx (.bool (f k)) := fun k hk => by rw [hf]; exact zpc (hks k hk).1 hb (hks k hk).2 hbn
 rw [<- hf]
 refine (z14 [] func183 rfl (by decide +kernel) rfl ?_)
 show awp _ _ (Code.seq _ _) _ _
 repeat' (first | refine zqj ?_ | ((refine zqh fun K J => ?_); (simp (disch := omega) only [go_sem, Nat.reduceBEq])) | refine zqa ?_ | (refine J _ ?_; clear J K))
 unfold rowV at hid
 (refine z4m (fun U st => ∃ (j : _), U = ks.length - j /\ st.t 0 = .osl id ks.length /\ st.t 1 = .fn 153 [.ptr b 0] /\ st.t 7 = .int .i64 ks.length /\ st.t 8 = .int .i64 j /\ st.nx = nx /\ (j <= ks.length) /\ (st.H = H) /\ (∀ n, (hn : n < j) -> (h : n < ks.length) -> f ks[n] = false)) ?_ ?_); rotate_left; (rintro U st ⟨j, rfl, q0, q1, q7, q8, qnx, qp0, qp1, qp2⟩); rotate_left
 ·(refine ⟨_, 0, rfl, ?_⟩); (simp (disch := omega) only [go_sem, Nat.reduceBEq, true_and, Int.natCast_zero])
  exact fun n hn => by omega
 by_cases hj : j < ks.length
 ·have hg := List.getElem?_eq_getElem hj
  have hp := hc ks[j] (List.getElem_mem hj)
  repeat' (first | ((first | refine zqh fun K J => ?_ | refine zqr fun K J => ?_ | refine z1d (hp) ?_); (simp (disch := omega) only [go_sem, Nat.reduceBEq, ↓reduceIte, reduceCtorEq, Nat.reduceAdd, q0, q1, q7, q8, qnx, qp1, hid, hg])) | ((first | refine zqd _ rfl (fun hc => ?_) (fun hc => ?_) | refine zqm _ rfl (fun hc => ?_) (fun hc => ?_)) <;> (((try simp only [z0b] at hc); (try omega)))) | refine zqa ?_ | refine zqb ?_ | refine zqk ?_ | refine zqn ?_ | refine zqv ?_ | refine zqx ?_ | refine zqy ?_ | refine z6q ?_ | refine zqo ?_ | refine zqu (by simp only [go_sem]; rfl) rfl ?_ | (refine J _ ?_; clear J K))
  ·(simp (disch := omega) only [go_sem, Nat.reduceBEq])
   rw [z39 (k := j) (by omega) (fun n hn => qp2 n hn (by omega)) (fun h => by assumption), if_pos (by omega)]
  ·(refine Exists.intro _ (And.intro ?_ ⟨j + 1, rfl, ?_⟩)); rotate_left; (simp (disch := omega) only [go_sem, Nat.reduceBEq, q0, q1, q7, q8, true_and, Int.natCast_add, Int.natCast_one]); rotate_left
   ·omega
   ·refine ⟨by omega, fun n hn h => ?_⟩
    by_cases e : n = j
    ·subst e; assumption
    ·exact qp2 n (by omega) h
 ·repeat' (first | ((refine zqh fun K J => ?_); (simp (disch := omega) only [go_sem, ↓reduceIte, q7, q8, qnx])) | ((refine zqd _ rfl (fun hc => ?_) (fun hc => ?_)) <;> (((try simp only [z0b] at hc); (try omega)))) | refine zqc ?_ | refine zqn ?_ | refine zqv ?_ | refine zqz ?_ | refine zqp ?_ | refine zqu (by simp only [go_sem]; rfl) rfl ?_ | (refine J _ ?_; clear J K))
  have hj2 : j = ks.length := by omega
  subst hj2
  (simp (disch := omega) only [go_sem, Nat.reduceBEq, qp1])
  rw [z39 (k := ks.length) (by omega) (fun n hn => qp2 n hn (by omega)) (fun h => by omega), if_neg (by omega)]
theorem zrr {H : HM} {nx id b : Nat} {i : Idv} {ks : List V} (hid : H id = some (rowV ks)) (hlt : id < nx) (hl : ks.length <= 1000000) (hb : H b = some (idB i)) (hbn : b < nx) (hbi : b ≠ id) (hks : ∀ k ∈ ks, H k.num = some (.box 117 (z3y k)) /\ k.num < nx /\ k.num ≠ id) (hk : ∃ k ∈ ks, k.own.id = i) :
  AC prog 152 [.osl id ks.length, .fn 153 [.ptr b 0]] H nx fun r H' nx' => r = .osl nx (ks.filter fun k => !decide (k.own.id = i)).length /\ H' = z0k (z0k H id none) nx (some (rowV (ks.filter fun k => !decide (k.own.id = i)))) /\ nx' = nx + 1 := by
 have hix := zun hid hl hb hbn (fun k hk => ⟨(hks k hk).1, (hks k hk).2.1⟩)
 obtain ⟨f, hf⟩ : ∃ f : V -> Bool, f = fun k : V => decide (k.own.id = i) := ⟨_, rfl⟩
 have hfn : z2v f ks < ks.length := by
  have := z95 f ks
  have ha : ks.any f = true := by
   obtain ⟨k, hk1, hk2⟩ := hk
   rw [List.any_eq_true]
   exact ⟨k, hk1, by rw [hf]; exact decide_eq_true hk2⟩
  rw [ha] at this; simpa using this
 have hfk : (ks.filter fun k => !decide (k.own.id = i)) = ks.filter fun k => !f k := by rw [hf]
 rw [hfk]
 rw [<- hf, if_pos hfn] at hix
 have hcl : ∀ k ∈ ks, ∀ H2 : HM, (∀ q, q ≠ id -> H2 q = H q) -> RC prog 153 [.ptr k.num 0, .ptr b 0] H2 nx (.bool (f k)) := fun k hk H2 h2 => by
  rw [hf]; exact zpc (by rw [h2 _ (hks k hk).2.2]; exact (hks k hk).1) (by rw [h2 _ hbi]; exact hb) (hks k hk).2.1 hbn
 have hnb := z4h hlt
 have hfp : (ks.take (z2v f ks + 1)).filter (fun x => !f x) = ks.take (z2v f ks) := zkt f ks hfn
 unfold rowV at hid
 refine zak func152 rfl (by decide +kernel) (by simp [ntmps152]) ?_
 refine Sem.seq (Sem.walk (own := []) z8j (by decide +kernel) ?_)
 repeat' (first | ((refine zqr fun K J => ?_); (simp (disch := omega) only [go_sem, ↓reduceIte])) | (refine J _ ?_; clear J K))
 refine z9t ?_
 refine Sem.seq (Sem.walk (own := []) z8j (by decide +kernel) ?_)
 repeat' (first | ((first | refine zqr fun K J => ?_ | refine z1d (hix) ?_); (simp (disch := omega) only [go_sem, Nat.reduceBEq])) | (refine J _ ?_; clear J K))
 refine z9t ?_
 refine Sem.seq (Sem.walk (own := []) z8j (by decide +kernel) ?_)
 repeat' (first | ((refine zqh fun K J => ?_); (simp (disch := omega) only [go_sem, Nat.reduceBEq, ↓reduceIte, reduceCtorEq])) | ((refine zqm _ rfl (fun hc => ?_) (fun hc => ?_)) <;> (first | (cases hc; done) | ((try simp only [] at hc); (try omega)))) | refine zqk ?_ | (refine J _ ?_; clear J K))
 refine z9t ?_
 refine Sem.seq (Sem.walk (own := []) z8j (by decide +kernel) ?_)
 repeat' (first | ((refine zqh fun K J => ?_); (simp (disch := omega) only [go_sem, Nat.reduceBEq, ↓reduceIte])) | refine zqi ?_ | (refine J _ ?_; clear J K))
 (refine z4m (fun U st => ∃ (n : Nat) (j : Nat) (L : List V), U = ks.length - j /\ st.t 0 = .osl id ks.length /\ st.t 1 = .fn 153 [.ptr b 0] /\ st.t 5 = .int .i64 n /\ st.t 6 = .int .i64 j /\ st.nx = nx /\ (n < j) /\ (j <= ks.length) /\ (L.length = ks.length) /\ (L.take n = (ks.take j).filter (fun x => !f x)) /\ (L.drop j = ks.drop j) /\ (st.H = z0k H id (some (.row 75 ks.length (L.map fun v => .ptr v.num 0))))) ?_ ?_); rotate_left; (rintro U st ⟨n, j, L, rfl, q0, q1, q5, q6, qnx, qp0, qp1, qp2, qp3, qp4, qp5⟩); rotate_left
 ·(refine ⟨_, z2v f ks, z2v f ks + 1, ks, rfl, ?_⟩); (simp (disch := omega) only [go_sem, Nat.reduceBEq, true_and, Int.natCast_add, Int.natCast_one])
  exact ⟨by omega, by omega, hfp.symm, (zku hid).symm⟩
 by_cases hj : j < ks.length
 ·have hjL : L[j] = ks[j] := by
   have h1 : L.drop j = L[j] :: L.drop (j + 1) := List.drop_eq_getElem_cons (by omega)
   have h2 : ks.drop j = ks[j] :: ks.drop (j + 1) := List.drop_eq_getElem_cons hj
   rw [h1, h2, List.cons.injEq] at qp4
   exact qp4.1
  have hdj : L.drop (j + 1) = ks.drop (j + 1) := by
   rw [<- List.drop_drop, <- List.drop_drop, qp4]
  have htk := List.take_succ_eq_append_getElem hj
  have hg : L[j]? = some ks[j] := by rw [List.getElem?_eq_getElem (by omega), hjL]
  have hrw : st.H id = some (.row 75 ks.length (L.map fun v => .ptr v.num 0)) := by rw [qp5]; exact z2u
  have hcj := hcl ks[j] (List.getElem_mem hj) st.H (fun q hq => by rw [qp5]; exact z82 hq)
  cases hfj : f ks[j] with
  | true =>
   rw [hfj] at hcj
   repeat' (first | refine zqj ?_ | ((first | refine zqh fun K J => ?_ | refine zqr fun K J => ?_ | refine z1d (hcj) ?_); (simp (disch := omega) only [go_sem, Nat.reduceBEq, ↓reduceIte, reduceCtorEq, Nat.reduceAdd, q0, q1, q6, qnx, hrw, hg])) | ((first | refine zqd _ rfl (fun hc => ?_) (fun hc => ?_) | refine zqm _ rfl (fun hc => ?_) (fun hc => ?_)) <;> (first | (cases hc; done) | ((try simp only [z0b] at hc); (try omega)))) | refine zqa ?_ | refine zqb ?_ | refine zqk ?_ | refine zqv ?_ | refine zqy ?_ | (refine J _ ?_; clear J K))
   (refine Exists.intro _ (And.intro ?_ ⟨n, j + 1, L, rfl, ?_⟩)); rotate_left; (simp (disch := omega) only [go_sem, Nat.reduceBEq, q0, q1, q5, q6, true_and, Int.natCast_add, Int.natCast_one]); rotate_left
   all_goals (repeat' (first | omega | (rw [qp3, htk, List.filter_append]; simp [hfj]; done) | refine And.intro ?_ ?_))
  | false =>
   rw [hfj] at hcj
   repeat' (first | refine zqj ?_ | ((first | refine zqh fun K J => ?_ | refine zqr fun K J => ?_ | refine z1d (hcj) ?_); (simp (disch := omega) only [go_sem, Nat.reduceBEq, ↓reduceIte, reduceCtorEq, Nat.reduceAdd, Nat.reduceLT, q0, q1, q5, q6, qnx, hrw, hg, List.length_map])) | ((first | refine zqd _ rfl (fun hc => ?_) (fun hc => ?_) | refine zqm _ rfl (fun hc => ?_) (fun hc => ?_)) <;> (first | (cases hc; done) | ((try simp only [z0b] at hc); (try omega)))) | refine zqa ?_ | refine zqb ?_ | refine zqv ?_ | refine zqy ?_ | (refine J _ ?_; clear J K))
   have e1 : (L.set n ks[j]).take (n + 1) = L.take n ++ [ks[j]] := by
    rw [List.take_succ_eq_append_getElem (by rw [List.length_set]; omega), List.getElem_set_self, List.take_set_of_le (Nat.le_refl _)]
   have e2 : (L.set n ks[j]).drop (j + 1) = ks.drop (j + 1) := by rw [List.drop_set_of_lt (by omega)]; exact hdj
   (refine Exists.intro _ (And.intro ?_ ⟨n + 1, j + 1, (L.set n ks[j]), rfl, ?_⟩)); rotate_left; (simp (disch := omega) only [go_sem, Nat.reduceBEq, q0, q1, q5, q6, true_and, Int.natCast_add, Int.natCast_one, List.length_set]); rotate_left
   all_goals (repeat' (first | omega | (rw [e1, qp3, htk, List.filter_append]; simp [hfj]; done) | (rw [qp5, z6b, List.map_set]; done) | refine And.intro ?_ ?_))
 ·have hje : j = ks.length := by omega
  subst hje
  rw [List.take_length] at qp3
  have hrw : st.H id = some (.row 75 ks.length (L.map fun v => .ptr v.num 0)) := by rw [qp5]; exact z2u
  repeat' (first | refine zqj ?_ | ((refine zqh fun K J => ?_); (simp (disch := omega) only [go_sem, Nat.reduceBEq, ↓reduceIte, q0, q6])) | ((refine zqd _ rfl (fun hc => ?_) (fun hc => ?_)) <;> (((try simp only [z0b] at hc); (try omega)))) | refine zqc ?_ | refine zqp ?_ | (refine J _ ?_; clear J K))
  refine zqz (z9t ?_)
  refine Sem.seq (zut (own := []) (l1 := [_, _]) (e := 75) rfl (by intro o ho; simp at ho; rcases ho with rfl | rfl <;> decide) (by decide) zk0 (by rw [z7h]; decide) (z := .pointer none) (by kernel_rfl) (by rw [z7h]; rfl) (by decide) ?_)
  (simp (disch := omega) only [go_sem, Nat.reduceBEq, q0, q5, qnx])
  refine ⟨id, ks.length, n, _, rfl, rfl, hrw, qp0, ?_⟩
  refine z9t (Sem.seq (zrs (own := []) (l1 := [_, _]) (e := 75) rfl (by intro o ho; simp at ho; rcases ho with rfl | rfl <;> decide) (by decide) (by decide) zk0 (by rw [z7h]; decide) ?_))
  (simp (disch := omega) only [go_sem, Nat.reduceBEq, q0, q5])
  refine ⟨id, ks.length, n, _, rfl, rfl, by simp; rfl, by omega, by omega, z9t ?_⟩
  refine Sem.walk (own := []) z8j (by decide +kernel) ?_
  repeat' (first | refine zqn ?_ | refine zqu (by simp only [go_sem]; rfl) rfl ?_)
  have hln : (L.take n).length = n := by rw [List.length_take]; omega
  have htk : List.take n (List.map (fun v : V => D.ptr v.num 0) (List.take n L) ++ List.replicate (ks.length - n) D.any) = (L.take n).map fun v => .ptr v.num 0 := List.take_left' (by rw [List.length_map, hln])
  have hln2 : n = (ks.filter fun k => !f k).length := by rw [<- qp3, hln]
  refine ⟨?_, ?_, rfl⟩
  ·(simp (disch := omega) only [go_sem, Nat.reduceBEq])
   rw [<- hln2]
  ·(simp (disch := omega) only [go_sem])
   rw [htk, z6b, qp5, z6b, <- qp3]
   unfold rowV
   rw [hln]
end
end Go.Proofs.YtmnabhhdiinfaaaGreatDoor
namespace Go.Proofs.YtmnabhhdiinfaaaGreatDoor.Abs
theorem zlt {P : Program} {own : List Nat} {a b : Code} {Q : Exit -> St -> Prop} {st : St} (I : St -> Prop) (h2 : awp P own a (zu7 I Q) st) (h1 : ∀ st, I st -> awp P own b Q st) : awp P own (.seq a b) Q st :=
 z7w a _ _ st (zlg (fun st h => ⟨st, SealTo.refl st, h1 st h⟩) (fun _ _ h => h)) h2
theorem seqK_J {I : St -> Prop} {Q : Exit -> St -> Prop} {st : St} (h : I st) : zu7 I Q .normal st := h
end Go.Proofs.YtmnabhhdiinfaaaGreatDoor.Abs
namespace Go.Proofs.YtmnabhhdiinfaaaGreatDoor
open _root_.Go.Proofs.Tryz
section
open Abs Facts Tr
attribute [local irreducible] awp
set_option maxRecDepth 100000
def ptrO : Option Nat -> D
 | none => .nptr
 | some x => .ptr x 0
def DoOK (g : FuncId) (cap : List D) (lo : Nat) (H0 : HM) (E : zsm) (w : V) : Prop := ∀ m H n c r, PreE lo m H n c r w -> Agree lo H0 H ->
 AC prog g (.ptr c 0 :: cap) H n fun r' H' n' => r' = .tup [] /\ H' = (E w c r H n).1 /\ n' = (E w c r H n).2
theorem zrw {g : FuncId} {cap : List D} {lo : Nat} {id : Idv} {E : zsm} {Q : V -> V -> Prop} {H0 : HM} : ∀ v : V, szB (treeV v) = true -> (∀ w ∈ nodesV v, w.own.id = id -> DoOK g cap lo H0 E w /\ zo4 lo H0 E Q w) -> ∀ H n, lo <= n -> Agree lo H0 H -> Stand H v -> Under lo v ->
  AC prog 146 [.ptr v.num 0, z0n id, .fn g cap] H n fun r' H' n' => r' = ptrO (zo3 id E v H n).1 /\ H' = (zo3 id E v H n).2.1 /\ n' = (zo3 id E v H n).2.2 := by
 refine zdg fun v ih hs hE H n hlo h0 hst hu => ?_
 have hun : Under n v := hu.le hlo
 have hnum := hun _ (z4a v)
 obtain ⟨s1, s2, s3⟩ := (z29 H v).1 hst
 have h3 : v.kids.length <= 1000000 := by
  obtain ⟨_, _, _, _, _, h3, _⟩ := (z2i _).1 hs
  rw [z1p, List.length_map] at h3; exact h3
 obtain ⟨hp, hag, hnk, hni⟩ := zlm (id := id) hlo hst hu
 have hk0 := zf7 hst hun
 have hnb := z4h hnum
 rw [zw3]
 unfold chgF
 simp only
 generalize hk : zcc v (z0k H n (some (idB id))) (n + 1) = k at hp hag hnk hni ⊢
 obtain ⟨r, Hk, c⟩ := k
 simp only at hp hag hnk hni ⊢
 refine (z14 [3000014, 3000018, 4000019, 10000019, 3000026, 3000027] func146 rfl (by decide +kernel) rfl ?_)
 show awp _ _ (Code.seq _ _) _ _
 repeat' (first | ((refine z36 (N := 1) rfl fun K J => ?_); (simp (disch := omega) only [go_sem])) | (refine J _ ?_; clear J K))
 (refine zlt (fun st => st.t 0 = .ptr v.num 0 /\ st.t 2 = .fn g cap /\ st.t 4 = .ptr n 0 /\ st.t 7 = .ptr c 0 /\ st.nx = c + 1 /\ (st.H = z0k Hk c (some (nodeB v.own (kdR r v.kids.length))))) ?_ ?_); rotate_left; (rintro st ⟨p0, p2, p4, p7, pnx, pp0⟩); rotate_left
 ·rcases hk0 with ⟨hr, hnil⟩ | ⟨r0, hr, hrn, hrow⟩
  ·have e1 : kdD v = .nil := by unfold kdD; rw [hr]
   have c1 := fun H nx => zrq (H := H) (nx := nx)
   have hk2 : zcc v (z0k H n (some (idB id))) (n + 1) = (none, z0k H n (some (idB id)), n + 1) := by unfold zcc; rw [hr]
   rw [hk2, Prod.mk.injEq, Prod.mk.injEq] at hk
   obtain ⟨rfl, rfl, rfl⟩ := hk
   repeat' (first | ((first | refine zqq (by decide +kernel) fun K J => ?_ | refine zc8 (c1 _ _) rfl ?_); (simp (disch := omega) only [go_sem, Nat.reduceBEq, Nat.reduceEqDiff, ↓reduceIte, reduceCtorEq, Nat.reduceAdd, Nat.reduceLeDiff, s1, hnb, z3y, e1])) | (refine J _ ?_; clear J K))
   (refine seqK_J ?_); (simp (disch := omega) only [go_sem, Nat.reduceBEq, true_and])
   rfl
  ·have e1 : kdD v = .osl r0 v.kids.length := by unfold kdD; rw [hr]
   have hk2 : zcc v (z0k H n (some (idB id))) (n + 1) = (some (n + 1 + 1), z0k (z0k (z0k H n (some (idB id))) (n + 1) (some row0)) (n + 1 + 1) (some (rowV v.kids)), n + 1 + 2) := by unfold zcc; rw [hr]
   rw [hk2, Prod.mk.injEq, Prod.mk.injEq] at hk
   obtain ⟨rfl, rfl, rfl⟩ := hk
   have hrb := z4h hrn
   repeat' (((refine zqq (by decide +kernel) fun K J => ?_); (simp (disch := omega) only [go_sem, Nat.reduceBEq, Nat.reduceEqDiff, ↓reduceIte, reduceCtorEq, Nat.reduceAdd, Nat.reduceLeDiff, s1, hnb, z3y, e1])))
   refine z4o (zum (n := v.kids.length) (cs := v.kids.map fun k => .ptr k.num 0) (by (simp (disch := omega) only [go_sem, hrb, hrow])) (by (simp (disch := omega) only [go_sem])) h3 (by simp)) rfl rfl rfl ⟨Nat.le_add_right _ _, fun j hj => ?_⟩ ?_
   ·rw [z01 _ (by omega), z01 _ (by omega)]
   (try (simp (disch := omega) only [go_sem, Nat.reduceBEq, ↓reduceIte, Nat.reduceAdd, Nat.reduceLeDiff])); repeat' ((refine J _ ?_; clear J K))
   (refine seqK_J ?_); (simp (disch := omega) only [go_sem, Nat.reduceBEq, true_and])
   rfl
 have hH : st.H c = some (.box 117 (z3y (.mk c r v.own v.kids))) := by rw [pp0]; exact z2u
 have hcn := hp.cn
 have hnc := hp.mc
 have hagS : Agree n H st.H := by rw [pp0]; exact hag
 have hHi : st.H n = some (idB id) := by rw [pp0]; exact hni
 have hHv : st.H v.num = some (.box 117 (z3y v)) := by rw [hagS _ hnum]; exact s1
 have h03 : Agree lo H0 (z0k Hk c (some (nodeB v.own (kdR r v.kids.length)))) := fun j hj => (hag j (by omega)).trans (h0 j hj)
 repeat' (first | refine zqj ?_ | ((first | refine z36 (N := 5) rfl fun K J => ?_ | refine zbw (N := 5) rfl (by decide +kernel) fun K J => ?_); (simp (disch := omega) only [go_sem, Nat.reduceBEq, Nat.reduceEqDiff, ↓reduceIte, reduceCtorEq, Nat.reduceAdd, Nat.reduceLeDiff, p0, p2, p4, p7, pnx, hHi, hHv, z3y, idB, z07])) | ((refine zqd _ rfl (fun hc => ?_) (fun hc => ?_)) <;> (((try simp only [z0b] at hc); (try omega)))) | refine zqb ?_ | (refine J _ ?_; clear J K))
 ·have hcall := (hE v (z41 v) (by assumption)).1 n _ (c + 1) c r hp h03
  rw [<- pp0, <- pnx] at hcall
  refine z1m (hcall.mono fun r' H' n' ⟨e1, e2, e3⟩ => ?_)
  subst e1
  (try (simp (disch := omega) only [go_sem])); repeat' (first | refine zqj ?_ | ((refine zqh fun K J => ?_); (simp (disch := omega) only [go_sem, Nat.reduceBEq, p7])) | refine zqg ?_ | refine zqu (by simp only [go_sem]; rfl) rfl ?_ | (refine J _ ?_; clear J K))
  rw [if_pos (by assumption)]
  rw [pp0, pnx] at e2 e3
  exact ⟨rfl, e2, e3⟩
 ·rw [if_neg (by assumption)]
  rcases hk0 with ⟨hr, hnil⟩ | ⟨r0, hr, hrn, hrow⟩
  ·have e1 : kdD v = .nil := by unfold kdD; rw [hr]
   repeat' (first | ((refine zqh fun K J => ?_); (simp (disch := omega) only [go_sem, Nat.reduceBEq, ↓reduceIte, reduceCtorEq, Nat.reduceAdd, p0, hHv, z3y, e1])) | refine zqa ?_ | (refine J _ ?_; clear J K))
   (refine z4m (fun U st => ∃ (i : Nat), U = 1 - i /\ st.t 37 = .int .i64 0 /\ st.t 38 = .int .i64 0 /\ st.nx = c + 1 /\ (st.H = z0k Hk c (some (nodeB v.own (kdR r v.kids.length))))) ?_ ?_); rotate_left; (rintro U st ⟨i, rfl, q37, q38, qnx, qp0⟩); rotate_left
   ·(refine ⟨_, 0, rfl, ?_⟩); (simp (disch := omega) only [go_sem, Nat.reduceBEq, pnx, true_and])
    exact pp0
   repeat' (first | ((refine zqh fun K J => ?_); (simp (disch := omega) only [go_sem, ↓reduceIte, Int.reduceLT, q37, q38, qnx])) | ((refine zqd _ rfl (fun hc => ?_) (fun hc => ?_)) <;> (first | (cases hc; done) | ((try simp only [] at hc); (try omega)))) | refine zqc ?_ | refine zqn ?_ | refine zqv ?_ | refine zqz ?_ | refine zqp ?_ | refine zqu (by simp only [go_sem]; rfl) rfl ?_ | (refine J _ ?_; clear J K))
   rw [show v.kids.map (zo3 id E) = [] from by rw [hnil]; rfl]
   exact ⟨rfl, qp0, rfl⟩
  ·have e1 : kdD v = .osl r0 v.kids.length := by unfold kdD; rw [hr]
   have hrS := (hagS _ hrn).trans hrow
   repeat' (first | ((refine zqh fun K J => ?_); (simp (disch := omega) only [go_sem, Nat.reduceBEq, ↓reduceIte, reduceCtorEq, Nat.reduceAdd, p0, hHv, z3y, e1])) | refine zqa ?_ | (refine J _ ?_; clear J K))
   (refine z4m (fun U st => ∃ (i : _), U = v.kids.length - i /\ st.t 2 = .fn g cap /\ st.t 4 = .ptr n 0 /\ st.t 7 = .ptr c 0 /\ st.t 36 = .osl r0 v.kids.length /\ st.t 37 = .int .i64 v.kids.length /\ st.t 38 = .int .i64 i /\ (i <= v.kids.length) /\ (c + 1 <= st.nx) /\ (Agree (c + 1) (z0k Hk c (some (nodeB v.own (kdR r v.kids.length)))) st.H) /\ (zo2 v c r ((v.kids.drop i).map (zo3 id E)) i st.H st.nx = zo2 v c r (v.kids.map (zo3 id E)) 0 (z0k Hk c (some (nodeB v.own (kdR r v.kids.length)))) (c + 1))) ?_ ?_); rotate_left; (rintro U st ⟨i, rfl, q2, q4, q7, q36, q37, q38, qp0, qp1, qp2, qp3⟩); rotate_left
   ·(refine ⟨_, 0, rfl, ?_⟩); (simp (disch := omega) only [go_sem, Nat.reduceBEq, Nat.reduceLeDiff, p2, p4, p7, pnx, true_and, Int.natCast_zero])
    exact ⟨Nat.le_refl _, by rw [pp0]; exact Agree.refl _ _, by rw [pp0]⟩
   have hcS : st.H c = some (.box 117 (z3y (.mk c r v.own v.kids))) := by rw [qp2 c (Nat.lt_succ_self _)]; exact z2u
   have hnS : st.H n = some (idB id) := by rw [qp2 n (by omega)]; exact hni
   have hrS : st.H r0 = some (.row 75 v.kids.length (v.kids.map fun k => .ptr k.num 0)) := ((qp2 r0 (by omega)).trans (hag _ hrn)).trans hrow
   by_cases hi : i < v.kids.length
   ·have hgt : v.kids[i]? = some v.kids[i] := List.getElem?_eq_getElem hi
    have hkm := List.getElem_mem hi
    have hdr : v.kids.drop i = v.kids[i] :: v.kids.drop (i + 1) := List.drop_eq_getElem_cons hi
    have hstk : Stand st.H v.kids[i] := Stand.on _ (fun j hj => (qp2 j (by have := z42 hun hkm j hj; omega)).trans (hag j (z42 hun hkm j hj))) (s3 _ hkm)
    have hagk : Agree lo H0 st.H := fun j hj => (qp2 j (by omega)).trans (h03 j hj)
    have hin := ih v.kids[i] hkm (zlr hs hkm) (fun w hw => hE w (z2r hkm hw)) st.H st.nx (by omega) hagk hstk (z42 hu hkm)
    have hfc := zln v.kids[i] (fun w hw e => (hE w (z2r hkm hw) e).2) st.H st.nx (by omega) hagk hstk (z42 hu hkm)
    rw [hdr, List.map_cons] at qp3
    simp only [zo2] at qp3
    generalize zo3 id E v.kids[i] st.H st.nx = o1 at hin hfc qp3
    obtain ⟨x1, H1, n1⟩ := o1
    have hle1 := hfc.le
    have hag1 := hfc.agree
    simp only at hin qp3 hle1 hag1
    repeat' (first | ((refine zqh fun K J => ?_); (simp (disch := omega) only [go_sem, Nat.reduceBEq, ↓reduceIte, reduceCtorEq, Nat.reduceAdd, Nat.reduceLeDiff, q2, q4, q36, q37, q38, hnS, hrS, hgt, idB, z07])) | ((refine zqd _ rfl (fun hc => ?_) (fun hc => ?_)) <;> (((try simp only [z0b] at hc); (try omega)))) | refine zqa ?_ | refine zqb ?_ | (refine J _ ?_; clear J K))
    refine z1m (hin.mono fun r' H' n' ⟨e1, e2, e3⟩ => ?_)
    subst e1; subst e2; subst e3
    cases x1 with
    | none =>
     unfold ptrO
     simp only [Option.isSome_none, Bool.false_eq_true, if_false] at qp3
     (try (simp (disch := omega) only [go_sem, Nat.reduceBEq])); repeat' (first | ((first | refine zqh fun K J => ?_ | refine zqr fun K J => ?_); (simp (disch := omega) only [go_sem, Nat.reduceBEq, ↓reduceIte, q38])) | ((refine zqm _ rfl (fun hc => ?_) (fun hc => ?_)) <;> (first | (cases hc; done) | ((try simp only [] at hc); (try omega)))) | refine zqk ?_ | refine zqv ?_ | refine zqy ?_ | (refine J _ ?_; clear J K))
     (refine Exists.intro _ (And.intro ?_ ⟨i + 1, rfl, ?_⟩)); rotate_left; (simp (disch := omega) only [go_sem, Nat.reduceBEq, q2, q4, q7, q36, q37, q38, true_and, Int.natCast_add, Int.natCast_one]); rotate_left
     ·omega
     ·exact ⟨by omega, by omega, fun j hj => (hag1 j (by omega)).trans (qp2 j hj), qp3⟩
    | some x =>
     unfold ptrO
     simp only [Option.isSome_some, if_true, Option.getD_some] at qp3
     obtain ⟨q, hq⟩ : ∃ q, r = some q := by
      cases hr2 : r with
      | none =>
       have h0 : v.kids.length = 0 := by rw [hp.nor hr2]; rfl
       omega
      | some q => exact ⟨q, rfl⟩
     subst hq
     obtain ⟨r1, r2, r3⟩ := hp.row q rfl
     have hc1 : H' c = some (.box 117 [.int .i64 v.own.id.act, .int .i64 v.own.id.item, .int .i64 v.own.id.n, .int .i64 v.own.kind, .str v.own.label, z0r v.own.head, z0r v.own.words, .nil, .osl q v.kids.length]) := (hag1 c (by omega)).trans hcS
     have hq1 : H' q = some (rowV v.kids) := ((hag1 q (by omega)).trans (qp2 q (by omega))).trans r3
     (try (simp (disch := omega) only [go_sem, Nat.reduceBEq])); repeat' (first | ((refine zqh fun K J => ?_); (simp (disch := omega) only [go_sem, Nat.reduceBEq, ↓reduceIte, reduceCtorEq, Nat.reduceAdd, Nat.reduceLT, q7, hc1, hq1, rowV, List.length_map])) | ((refine zqm _ rfl (fun hc => ?_) (fun hc => ?_)) <;> (first | (cases hc; done) | ((try simp only [] at hc); (try omega)))) | refine zqn ?_ | refine zqx ?_ | refine z6q ?_ | refine zqo ?_ | refine zqu (by simp only [go_sem]; rfl) rfl ?_ | (refine J _ ?_; clear J K))
     rw [<- qp3]
     refine ⟨rfl, ?_, rfl⟩
     (simp (disch := omega) only [go_sem])
     rfl
   ·repeat' (first | ((refine zqh fun K J => ?_); (simp (disch := omega) only [go_sem, ↓reduceIte, q37, q38])) | ((refine zqd _ rfl (fun hc => ?_) (fun hc => ?_)) <;> (((try simp only [z0b] at hc); (try omega)))) | refine zqc ?_ | refine zqn ?_ | refine zqv ?_ | refine zqz ?_ | refine zqp ?_ | refine zqu (by simp only [go_sem]; rfl) rfl ?_ | (refine J _ ?_; clear J K))
    have hi2 : v.kids.drop i = [] := List.drop_eq_nil_of_le (by omega)
    rw [hi2] at qp3
    rw [<- qp3]
    exact ⟨rfl, rfl, rfl⟩
theorem zrb : ∀ t : T, szB t = true -> ∀ H nx, AC prog 37 [z0m t] H nx fun r H' nx' => r = .ptr (nx + 1) 0 /\ H' = (z67 t H nx).2.1 /\ nx' = (z67 t H nx).2.2 := by
 refine z5c fun t ih hs H nx => ?_
 obtain ⟨h0, h1, g1, h2, g2, h3, h4⟩ := (z2i _).1 hs
 have c1 := z6a t.head (by omega)
 have c2 := z6a t.words (by omega)
 have hnb := nx_facts (nx := nx + 3) (by omega)
 have hn1 : (nx == nx + 1) = false := by simp
 have hn2 : (nx + 1 == nx) = false := by simp
 have hcu := z0f t
 refine (z14 [3000038, 3000039, 4000040, 10000040] func37 rfl (by decide +kernel) rfl ?_)
 show awp _ _ (Code.seq _ _) _ _
 repeat' (first | refine zqj ?_ | ((first | refine zqh fun K J => ?_ | refine zqe (by decide +kernel) fun K J => ?_ | refine zqt (c1) ?_ | refine zqt (c2) ?_); (simp (disch := omega) only [go_sem, Nat.reduceBEq, Nat.reduceEqDiff, ↓reduceIte, reduceCtorEq, Nat.reduceAdd, Nat.reduceLeDiff, Nat.reduceLT, hn1, hn2, z0m, hcu, z0r, List.set_cons_succ, List.set_cons_zero])) | refine zqa ?_ | (refine J _ ?_; clear J K))
 (refine z4m (fun U st => ∃ (i : _), U = t.kids.length - i /\ st.t 1 = .ptr nx 0 /\ st.t 3 = .ptr (nx + 1) 0 /\ st.t 28 = z13 t.kids /\ st.t 29 = .int .i64 t.kids.length /\ st.t 30 = .int .i64 i /\ (i <= t.kids.length) /\ (st.H = (znm t H nx i).H) /\ (st.nx = (znm t H nx i).n)) ?_ ?_); rotate_left; (rintro U st ⟨i, rfl, q1, q3, q28, q29, q30, qp0, qp1, qp2⟩); rotate_left
 ·(refine ⟨_, 0, rfl, ?_⟩); (simp (disch := omega) only [go_sem, Nat.reduceBEq, true_and, Int.natCast_zero, z13, zkw])
  unfold gs0 unitB nodeB
  simp only [hcu, z6b]
  exact ⟨rfl, trivial⟩
 have hg := zuy (t := t) (fun k _ => z7a k) H nx i qp0
 by_cases hi : i < t.kids.length
 ·have hkm := List.getElem_mem hi
  have hgt : (t.kids.map z0m)[i]? = some (z0m t.kids[i]) := by rw [List.getElem?_map, List.getElem?_eq_getElem hi]; rfl
  have hin := ih t.kids[i] hkm (h4 _ hkm)
  have hgr := z7a t.kids[i]
  obtain ⟨g, hgg⟩ : ∃ g, g = znm t H nx i := ⟨_, rfl⟩
  rw [<- hgg] at hg qp1 qp2
  have hle := hg.le
  have g1 := hg.unit
  have g2 := hg.node
  rw [<- qp1] at g1 g2
  have k1 : (nx + 1 == st.nx) = false := za1 (by omega)
  have k2 : (st.nx == nx + 1) = false := za1 (by omega)
  have hG := hgr (z0k st.H st.nx (some (unitB t.kids[i]))) (st.nx + 1)
  have hst : stG t (nx + 1) g (t.kids[i], z67 t.kids[i]) = znm t H nx (i + 1) := by rw [zkx t H nx hi, hgg]
  cases hr : g.r with
  | none =>
   have hkd : kdG g = .nil := by unfold kdG; rw [hr]
   rw [hkd] at g2
   repeat' (first | ((first | refine zqh fun K J => ?_ | refine zqq (by decide +kernel) fun K J => ?_); (simp (disch := omega) only [go_sem, Nat.reduceBEq, Nat.reduceEqDiff, ↓reduceIte, reduceCtorEq, Nat.reduceAdd, Nat.reduceLeDiff, q3, q28, q29, q30, z13, g2, k1, nodeB])) | ((refine zqd _ rfl (fun hc => ?_) (fun hc => ?_)) <;> (((try simp only [z0b] at hc); (try omega)))) | refine zqa ?_ | refine zqb ?_ | (refine J _ ?_; clear J K))
   refine z4o (hin _ _) rfl rfl rfl ⟨Nat.le_trans (Nat.le_add_right _ 2) (hgr _ _).le, fun j hj => (hgr _ _).agree j hj⟩ ?_
   unfold unitB at hG
   simp only [H_put, zvw, nx_put, zpq, z6b]
   unfold stG unitB at hst
   simp only [hr] at hst
   rw [<- qp1, <- qp2] at hst
   have hov : (z67 t.kids[i] (z0k st.H st.nx (some (.box 27 (z0h t.kids[i])))) (st.nx + 1)).1.num = st.nx + 1 + 1 := by rw [zat]; rfl
   generalize z67 t.kids[i] (z0k st.H st.nx (some (.box 27 (z0h t.kids[i])))) (st.nx + 1) = o at hG hst hov ⊢
   obtain ⟨ov, oH, on⟩ := o
   have hGn := hG.le
   have hGa := hG.agree
   simp only at hGn hGa hst hov ⊢
   have k5 : (nx + 1 == on) = false := za1 (by omega)
   have hvl : g.vs.length = i := by have := congrArg List.length hg.vs; rw [List.length_map, List.length_take] at this; omega
   have f1 : oH (nx + 1) = some (nodeB t .nil) := by rw [hGa _ (by omega), z82 (by omega)]; exact g2
   have hv0 := hg.none_ hr
   rw [hv0] at hst
   (try (simp (disch := omega) only [go_sem, Nat.reduceBEq, Nat.reduceEqDiff, ↓reduceIte, reduceCtorEq, Nat.reduceAdd, Nat.reduceMul, Nat.reduceLeDiff, Nat.reduceLT, f1, k5, nodeB])); repeat' (first | ((refine zqr fun K J => ?_); (simp (disch := omega) only [go_sem, Nat.reduceBEq, ↓reduceIte, q30])) | refine zqv ?_ | refine zqy ?_ | (refine J _ ?_; clear J K))
   (refine Exists.intro _ (And.intro ?_ ⟨i + 1, rfl, ?_⟩)); rotate_left; (simp (disch := omega) only [go_sem, Nat.reduceBEq, q1, q3, q28, q29, q30, true_and, Int.natCast_add, Int.natCast_one]); rotate_left
   ·omega
   ·rw [<- hst]
    refine ⟨by omega, ?_, rfl⟩
    unfold rowV nodeB
    simp [hov]
  | some r =>
   have hkd : kdG g = .osl r g.vs.length := by unfold kdG; rw [hr]
   obtain ⟨r1, r2, r3, r4⟩ := hg.row r hr
   rw [hkd] at g2
   rw [<- qp1] at r3
   have k3 : (r == st.nx) = false := za1 (by omega)
   have k4 : (st.nx == r) = false := za1 (by omega)
   repeat' (first | ((first | refine zqh fun K J => ?_ | refine zqq (by decide +kernel) fun K J => ?_); (simp (disch := omega) only [go_sem, Nat.reduceBEq, Nat.reduceEqDiff, ↓reduceIte, reduceCtorEq, Nat.reduceAdd, Nat.reduceLeDiff, q3, q28, q29, q30, z13, g2, k1, nodeB])) | ((refine zqd _ rfl (fun hc => ?_) (fun hc => ?_)) <;> (((try simp only [z0b] at hc); (try omega)))) | refine zqa ?_ | refine zqb ?_ | (refine J _ ?_; clear J K))
   refine z4o (hin _ _) rfl rfl rfl ⟨Nat.le_trans (Nat.le_add_right _ 2) (hgr _ _).le, fun j hj => (hgr _ _).agree j hj⟩ ?_
   unfold unitB at hG
   simp only [H_put, zvw, nx_put, zpq, z6b]
   unfold stG unitB at hst
   simp only [hr] at hst
   rw [<- qp1, <- qp2] at hst
   have hov : (z67 t.kids[i] (z0k st.H st.nx (some (.box 27 (z0h t.kids[i])))) (st.nx + 1)).1.num = st.nx + 1 + 1 := by rw [zat]; rfl
   generalize z67 t.kids[i] (z0k st.H st.nx (some (.box 27 (z0h t.kids[i])))) (st.nx + 1) = o at hG hst hov ⊢
   obtain ⟨ov, oH, on⟩ := o
   have hGn := hG.le
   have hGa := hG.agree
   simp only at hGn hGa hst hov ⊢
   have k5 : (nx + 1 == on) = false := za1 (by omega)
   have hvl : g.vs.length = i := by have := congrArg List.length hg.vs; rw [List.length_map, List.length_take] at this; omega
   have f1 : oH (nx + 1) = some (nodeB t (.osl r g.vs.length)) := by rw [hGa _ (by omega), z82 (by omega)]; exact g2
   have f2 : oH r = some (rowV g.vs) := by rw [hGa _ (by omega), z82 (by omega)]; exact r3
   have k6 : (nx + 1 == r) = false := za1 (by omega)
   (try (simp (disch := omega) only [go_sem, Nat.reduceBEq, Nat.reduceEqDiff, ↓reduceIte, reduceCtorEq, Nat.reduceAdd, Nat.reduceLeDiff, Nat.reduceLT, f1, f2, k6, nodeB, rowV])); repeat' (first | ((refine zqr fun K J => ?_); (simp (disch := omega) only [go_sem, Nat.reduceBEq, ↓reduceIte, q30])) | refine zqv ?_ | refine zqy ?_ | (refine J _ ?_; clear J K))
   (refine Exists.intro _ (And.intro ?_ ⟨i + 1, rfl, ?_⟩)); rotate_left; (simp (disch := omega) only [go_sem, Nat.reduceBEq, q1, q3, q28, q29, q30, true_and, Int.natCast_add, Int.natCast_one]); rotate_left
   ·omega
   ·rw [<- hst]
    refine ⟨by omega, ?_, rfl⟩
    unfold rowV nodeB
    simp [hov]
 ·repeat' (first | ((refine zqh fun K J => ?_); (simp (disch := omega) only [go_sem, Nat.reduceBEq, ↓reduceIte, q3, q29, q30])) | ((refine zqd _ rfl (fun hc => ?_) (fun hc => ?_)) <;> (((try simp only [z0b] at hc); (try omega)))) | refine zqc ?_ | refine zqn ?_ | refine zqv ?_ | refine zqz ?_ | refine zqp ?_ | refine zqu (by simp only [go_sem]; rfl) rfl ?_ | (refine J _ ?_; clear J K))
  have hi2 : i = t.kids.length := by omega
  subst hi2
  rw [zat]
  exact ⟨rfl, qp1, qp2⟩
end
section
open Abs Facts Tr
attribute [local irreducible] awp
namespace Tr
def T.setLabel (t : T) (s : ByteArray) : T := .mk t.id t.kind s t.head t.words t.kids
def T.setWords (t : T) (l : List Wd) : T := .mk t.id t.kind t.label t.head l t.kids
def T.setHead (t : T) (l : List Wd) : T := .mk t.id t.kind t.label l t.words t.kids
def z61 (u : T) (id : Idv) (name : ByteArray) : Bool := decide ((z05 id u).1.label = name) || ((z4w id u).2.2 && z3b (z05 (z4w id u).1 u).1.kids (z05 id u).1.kind name)
def z9f (u : T) (id : Idv) (name : ByteArray) : Int :=
 if standsT u = false \/ z4f name = false then 1 else
 if (z05 id u).2 = false then 4 else
 if (z05 id u).1.kind = 0 then 9 else
 if z61 u id name = true then 10 else 0
theorem ztw {id : Idv} {f g : T -> T} : ∀ u : T, (∀ q ∈ z0j u, q.id = id -> f q = g q) -> z0p id f u = z0p id g u := by
 refine z5c fun u ih h => ?_
 rw [z4b, z4b]
 split
 ·exact h u (z1r u) ‹_›
 ·rw [List.map_congr_left fun k hk => ih k hk fun q hq => h q (z2g hk hq)]
theorem zh3 {u x : T} {id : Idv} {f : T -> T} (hn : (idsT u).Nodup) (hm : id ∈ idsT u) (hx : x = f (z05 id u).1) (hid : x.id = id) (hf : ∀ q : T, (f q).setKids q.kids = f q) : z0p x.id (fun q => x.setKids q.kids) u = z0p id f u := by
 rw [hid]
 refine ztw u fun q hq hqi => ?_
 have := z8m hn hq hqi
 rw [hx, this]
 exact hf q
theorem ztx {u : T} {id : Idv} {name : ByteArray} (hs : standsT u = true) (hm : id ∈ idsT u) (hl : ¬ (z05 id u).1.label = name) (hp : (z4w id u).2.2 = true) :
  zmb (z05 (z4w id u).1 u).1.kids (z05 id u).1.kind name id false = z3b (z05 (z4w id u).1 u).1.kids (z05 id u).1.kind name := by
 unfold zmb z3b
 rw [Bool.eq_iff_iff, List.any_eq_true, List.any_eq_true]
 simp only [Bool.and_eq_true, decide_eq_true_eq, Bool.false_or]
 constructor
 ·rintro ⟨k, hk, h1, h2, _⟩; exact ⟨k, hk, h1, h2⟩
 ·rintro ⟨k, hk, h1, h2⟩
  refine ⟨k, hk, h1, h2, fun e => ?_⟩
  have hkn : k ∈ z0j u := by
   by_cases hf : (z05 (z4w id u).1 u).2 = true
   ·have h3 := z7o hf
    have : k ∈ z0j (z05 (z4w id u).1 u).1 := z2g hk (z1r k)
    have sub : ∀ u x : T, x ∈ z0j u -> ∀ y ∈ z0j x, y ∈ z0j u := by
     refine fun u => z5c (p := fun u => ∀ x : T, x ∈ z0j u -> ∀ y ∈ z0j x, y ∈ z0j u) (fun u ih x hx y hy => ?_) u
     rw [z1n, List.mem_cons] at hx
     rcases hx with rfl | hx
     ·exact hy
     ·obtain ⟨k, hk, hxk⟩ := List.mem_flatMap.1 hx
      exact z2g hk (ih k hk x hxk y hy)
    exact sub u _ h3 k this
   ·rw [Bool.not_eq_true, z27, decide_eq_false_iff_not] at hf
    rw [zfg hf] at hk
    cases hk
  have := z8m (z17 hs) hkn e
  rw [this] at hl
  exact hl h2
end Tr
theorem zox (u : T) (hu : szB u = true) (cu : cntT u <= 1000000) (du : depT u <= 1000000) (x : T) (id : Idv) (name : ByteArray) : PC prog 81 [.rptr (z0m u), .rptr (z0n id), .rptr (z0m x), .rptr (.str name)] (.bool (decide (x.label = name) || ((z4w id u).2.2 && z3b (z05 (z4w id u).1 u).1.kids x.kind name))) := by
 have hp := z6k (z4w id u).1 u hu
 have c1 := zcg u (z8b u hu) (by omega) id
 have c2 := z93 u (z8b u hu) (by omega) (z4w id u).1
 have c3 := zjc (z05 (z4w id u).1 u).1.kids (z6j hp).1 x.kind name
 refine z1g 1 (by simp only [pureD.pureL, z02, pureD, Bool.and_self]; rfl) rfl (z14 [] func81 rfl (by decide +kernel) rfl ?_)
 show awp _ _ (Code.seq _ _) _ _
 repeat' (first | ((first | refine zqh fun K J => ?_ | refine zqs (c1) ?_ | refine zqs (c2) ?_ | refine zqs (c3) ?_); (simp (disch := omega) only [go_sem, Nat.reduceBEq, ↓reduceIte, reduceCtorEq, Nat.reduceAdd, Nat.reduceLeDiff])) | refine zqn ?_ | refine zqu (by simp only [go_sem]; rfl) rfl ?_ | (refine J _ ?_; clear J K) | (refine zqf (fun hb => ?_) (fun hb => ?_) <;> (have hb2 := hb; try simp only [z0b] at hb2) <;> ((first | have hb3 : (_ : Bool) = _ := hb2 | have hb3 := eq_false hb2 | have hb3 := eq_true hb2); (simp (disch := omega) only [go_sem, Nat.reduceBEq, ↓reduceIte, reduceCtorEq, Nat.reduceAdd, hb, hb3, z13]); clear hb hb3; (try omega))))
 all_goals exact z03 (by simp [*])
theorem zoy (ok : Bool) : PC prog 83 [.rptr (.bool ok)] (.bool (!ok)) := by
 refine z1g 1 (by simp only [pureD.pureL, pureD, Bool.and_self]) rfl (z14 [] func83 rfl (by decide +kernel) rfl ?_)
 show awp _ _ (Code.seq _ _) _ _
 repeat' (first | ((refine zqh fun K J => ?_); (simp (disch := omega) only [go_sem, Nat.reduceBEq, ↓reduceIte, Nat.reduceAdd])) | refine zqn ?_ | refine zqu (by simp only [go_sem]; rfl) rfl ?_ | (refine J _ ?_; clear J K))
 exact z03 rfl
theorem zoz (x : T) : PC prog 84 [.rptr (z0m x)] (.bool (decide (x.kind = 0))) := by
 refine z1g 1 (by simp only [pureD.pureL, z02, pureD, Bool.and_self]) rfl (z14 [] func84 rfl (by decide +kernel) rfl ?_)
 show awp _ _ (Code.seq _ _) _ _
 repeat' (first | ((refine zqh fun K J => ?_); (simp (disch := omega) only [go_sem, Nat.reduceBEq, ↓reduceIte, reduceCtorEq, Nat.reduceAdd])) | refine zqn ?_ | refine zqu (by simp only [go_sem]; rfl) rfl ?_ | (refine J _ ?_; clear J K))
 exact z03 rfl
theorem zp0 (q : T) (name : ByteArray) : PC prog 85 [z0m q, .rptr (.str name)] (z0m (q.setLabel name)) := by
 refine z1g 1 (by simp only [pureD.pureL, z02, pureD, Bool.and_self]) (z02 _) (z14 [] func85 rfl (by decide +kernel) rfl ?_)
 show awp _ _ (Code.seq _ _) _ _
 rw [show Tryz.f85.results.toList = [.cell 3 27] from rfl]
 rw [show z0m q = .agg _ from by rw [z0m, z0f]]
 repeat' (first | ((refine zqh fun K J => ?_); (simp (disch := omega) only [go_sem, Nat.reduceBEq, ↓reduceIte, reduceCtorEq, Nat.reduceAdd, Nat.reduceLeDiff, Nat.reduceLT, List.set_cons_succ, List.set_cons_zero])) | refine zqn ?_ | refine zqu (by (simp (disch := omega) only [go_sem, Nat.reduceBEq, ↓reduceIte, Nat.reduceAdd, Nat.reduceLeDiff]); rfl) rfl ?_ | (refine J _ ?_; clear J K))
 rw [z0m, z0f]
 exact z0a (by simp only [pureD, pureD.pureL, z0d, z0t, Bool.and_self]) (Le.refl _)
theorem zyn (ok : Bool) (x : T) (b : Bool) (f1 f2 f3 : FuncId) (c1 c2 c3 : List D) : z89 [(f1, c1, 4, !ok), (f2, c2, 9, decide (x.kind = 0)), (f3, c3, 10, b)] = (if ok = false then 4 else if x.kind = 0 then 9 else if b = true then 10 else 0) := by
 cases ok
 ·rw [if_pos rfl]; rfl
 rw [if_neg (by simp), Bool.not_true, z4t]
 by_cases h : x.kind = 0
 ·rw [if_pos h, decide_eq_true h]; rfl
 rw [if_neg h, decide_eq_false h, z4t]
 cases b
 ·rw [if_neg (by simp)]; rfl
 ·rw [if_pos rfl]; rfl
theorem zty (u : T) (hu : szB u = true) (cu : cntT u <= 1000000) (du : depT u <= 1000000) (id : Idv) (name : ByteArray) (hn : name.size <= 1000000) :
  PC prog 29 [z0m u, z0n id, .str name] (.tup [z0m (if z9f u id name = 0 then z0p id (fun q => q.setLabel name) u else T.zero), .int .i64 (z9f u id name)]) := by
 have c1 := z8d u hu (by omega) (by omega)
 have c2 := zcm name (by unfold maxLen; omega)
 have c3 := z93 u (z8b u hu) (by omega) id
 have c4 := zas [(83, [.rptr (.bool (z05 id u).2)], 4, !(z05 id u).2), (84, [.rptr (z0m (z05 id u).1)], 9, decide ((z05 id u).1.kind = 0)), (81, [.rptr (z0m u), .rptr (z0n id), .rptr (z0m (z05 id u).1), .rptr (.str name)], 10, z61 u id name)]
  (by simp) (by
   intro c hc
   simp only [List.mem_cons, List.not_mem_nil, or_false] at hc
   rcases hc with rfl | rfl | rfl
   ·exact ⟨rfl, zoy _⟩
   ·exact ⟨by simp only [pureD.pureL, z02, pureD, Bool.and_self], zoz _⟩
   ·exact ⟨by simp only [pureD.pureL, z02, pureD, Bool.and_self]; rfl, zox u hu cu du _ id name⟩)
 rw [zyn] at c4
 refine z1g 3 (by simp only [pureD.pureL, z02, pureD, Bool.and_self]; rfl) (by simp only [pureD.pureL, z02, pureD, Bool.and_self]) (z14 [] func29 rfl (by decide +kernel) rfl ?_)
 show awp _ _ (Code.seq _ _) _ _
 rw [show Tryz.f29.results.toList = [.cell 6 27, .tmp 7] from rfl]
 by_cases h1 : standsT u = false
 ·rw [show z9f u id name = 1 from by unfold z9f; rw [if_pos (.inl h1)], if_neg (by decide)]
  rw [h1] at c1
  repeat' (first | refine zqj ?_ | ((first | refine zqh fun K J => ?_ | refine zqs (c1) ?_); (simp (disch := omega) only [go_sem, Nat.reduceBEq, ↓reduceIte, Nat.reduceAdd, Nat.reduceLeDiff])) | ((refine zqd _ rfl (fun hc => ?_) (fun hc => ?_)) <;> (first | (cases hc; done) | ((try simp only [] at hc); (try omega)))) | refine zqg ?_ | refine zqu (by (simp (disch := omega) only [go_sem, Nat.reduceBEq, ↓reduceIte, Nat.reduceAdd, Nat.reduceLeDiff]); rfl) rfl ?_ | (refine J _ ?_; clear J K))
  exact z0a rfl (Le.tup ⟨z12, Le.refl _, trivial⟩)
 by_cases h2 : z4f name = false
 ·rw [show z9f u id name = 1 from by unfold z9f; rw [if_pos (.inr h2)], if_neg (by decide)]
  rw [Bool.not_eq_false] at h1
  rw [h1] at c1
  rw [h2] at c2
  repeat' (first | refine zqj ?_ | ((first | refine zqh fun K J => ?_ | refine zqs (c1) ?_ | refine zqs (c2) ?_); (simp (disch := omega) only [go_sem, Nat.reduceBEq, ↓reduceIte, Nat.reduceAdd, Nat.reduceLeDiff])) | ((refine zqd _ rfl (fun hc => ?_) (fun hc => ?_)) <;> (first | (cases hc; done) | ((try simp only [] at hc); (try omega)))) | refine zqg ?_ | refine zqu (by (simp (disch := omega) only [go_sem, Nat.reduceBEq, ↓reduceIte, Nat.reduceAdd, Nat.reduceLeDiff]); rfl) rfl ?_ | (refine J _ ?_; clear J K))
  exact z0a rfl (Le.tup ⟨z12, Le.refl _, trivial⟩)
 have e0 : z9f u id name = (if (z05 id u).2 = false then 4 else if (z05 id u).1.kind = 0 then 9 else if z61 u id name = true then 10 else 0) := by unfold z9f; rw [if_neg (by rw [not_or]; exact ⟨h1, h2⟩)]
 rw [<- e0] at c4
 rw [Bool.not_eq_false] at h1 h2
 rw [h1] at c1
 rw [h2] at c2
 by_cases hw : z9f u id name = 0
 ·have hmf : (z05 id u).2 = true := by
   rw [e0] at hw
   by_cases h : (z05 id u).2 = false
   ·rw [if_pos h] at hw; cases hw
   ·simpa using h
  have hm : id ∈ idsT u := by rw [z27, decide_eq_true_eq] at hmf; exact hmf
  have c5 := zgc u hu id (fun q => q.setLabel name) (g := 85) (cap := [.rptr (.str name)]) rfl (fun q _ _ => zp0 q name)
  rw [(show (atR id (fun q => q.setLabel name) u).1 = z0p id (fun q => q.setLabel name) u from by rw [zfn _ (z17 h1) hm])] at c5
  rw [hw] at c4 ⊢
  rw [if_pos rfl]
  repeat' (first | refine zqj ?_ | ((first | refine z36 (N := 5) rfl fun K J => ?_ | refine zqs (c1) ?_ | refine zqs (c2) ?_ | refine zqs (c3) ?_); (simp (disch := omega) only [go_sem, Nat.reduceBEq, ↓reduceIte, Nat.reduceAdd, Nat.reduceLeDiff, Nat.reduceLT])) | ((refine zqd _ rfl (fun hc => ?_) (fun hc => ?_)) <;> (first | (cases hc; done) | ((try simp only [] at hc); (try omega)))) | refine zqb ?_ | (refine J _ ?_; clear J K))
  refine z3j fun K J => ?_
  (simp (disch := omega) only [go_sem, Nat.reduceBEq, ↓reduceIte, reduceCtorEq, Nat.reduceAdd, Nat.reduceMul, Nat.reduceLeDiff])
  refine z1d (PC.borrow c4 rfl 6 (z00 (z35 5 rfl (z00 (z11 _ 2 rfl (z00 (z2c (e := 4) 2 ?_ zgf (z08 1 rfl)) z0c)) (z00 (z11 _ 2 rfl (z00 (z06 (e := 27) 1 ?_ z0l (z04 _)) z0c)) (z00 (z11 _ 2 rfl (z00 (z06 (e := 27) 1 ?_ z0l (z04 _)) (z00 (z06 (e := 23) 1 ?_ z1i rfl) (z00 (z06 (e := 27) 1 ?_ z0l (z04 _)) (z00 (z2c (e := 9) 2 ?_ z98 (z08 1 rfl)) z0c))))) z0c)))) z0c)) ?_
  all_goals try (focus ((simp (disch := omega) only [go_sem, Nat.reduceBEq, z07]); done))
  (simp (disch := omega) only [go_sem, Nat.reduceBEq])
  refine J _ _ (zq9 (b := 2) (j := 5) (e := 9) (cs := [.str name]) (d := .str name) (by (simp (disch := omega) only [go_sem, Nat.reduceBEq])) (.inl rfl) rfl (by (simp (disch := omega) only [go_sem, Nat.reduceBEq]))) ?_
  clear J K
  repeat' (first | refine zqj ?_ | ((first | refine zqh fun K J => ?_ | refine zqs (c5) ?_); (simp (disch := omega) only [go_sem, Nat.reduceBEq, ↓reduceIte, Nat.reduceAdd, Nat.reduceLeDiff])) | ((refine zqd _ rfl (fun hc => ?_) (fun hc => ?_)) <;> (first | (cases hc; done) | ((try simp only [] at hc); (try omega)))) | refine zqb ?_ | refine zqn ?_ | refine zqu (by (simp (disch := omega) only [go_sem, Nat.reduceBEq, ↓reduceIte, Nat.reduceLeDiff]); rfl) rfl ?_ | (refine J _ ?_; clear J K))
  refine z0a ?_ (Le.refl _)
  simp only [pureD, pureD.pureL, z04, Bool.and_self]
 ·rw [if_neg hw]
  repeat' (first | refine zqj ?_ | ((first | refine zqh fun K J => ?_ | refine zqs (c1) ?_ | refine zqs (c2) ?_ | refine zqs (c3) ?_); (simp (disch := omega) only [go_sem, Nat.reduceBEq, ↓reduceIte, reduceCtorEq, Nat.reduceAdd, Nat.reduceMul, Nat.reduceLeDiff, Nat.reduceLT])) | ((refine zqd _ rfl (fun hc => ?_) (fun hc => ?_)) <;> (first | (cases hc; done) | ((try simp only [] at hc); (try omega)))) | refine zqb ?_ | (refine J _ ?_; clear J K))
  refine z1d (PC.borrow c4 rfl 6 (z00 (z35 5 rfl (z00 (z11 _ 2 rfl (z00 (z2c (e := 4) 2 ?_ zgf (z08 1 rfl)) z0c)) (z00 (z11 _ 2 rfl (z00 (z06 (e := 27) 1 ?_ z0l (z04 _)) z0c)) (z00 (z11 _ 2 rfl (z00 (z06 (e := 27) 1 ?_ z0l (z04 _)) (z00 (z06 (e := 23) 1 ?_ z1i rfl) (z00 (z06 (e := 27) 1 ?_ z0l (z04 _)) (z00 (z2c (e := 9) 2 ?_ z98 (z08 1 rfl)) z0c))))) z0c)))) z0c)) ?_
  all_goals try (focus ((simp (disch := omega) only [go_sem, Nat.reduceBEq, z07]); done))
  (try (simp (disch := omega) only [go_sem, Nat.reduceBEq])); repeat' (first | refine zqj ?_ | ((refine zqh fun K J => ?_); (simp (disch := omega) only [go_sem, Nat.reduceBEq, ↓reduceIte, Nat.reduceAdd, Nat.reduceLeDiff])) | ((refine zqd _ rfl (fun hc => ?_) (fun hc => ?_)) <;> (((try simp only [z0b] at hc); (try omega)))) | refine zqg ?_ | refine zqu (by (simp (disch := omega) only [go_sem, Nat.reduceBEq, ↓reduceIte, Nat.reduceAdd, Nat.reduceLeDiff]); rfl) rfl ?_ | (refine J _ ?_; clear J K))
  exact z0a rfl (Le.tup ⟨z12, Le.refl _, trivial⟩)
theorem zp1 (u : T) (hu : szB u = true) (cu : cntT u <= 1000000) (du : depT u <= 1000000) (id : Idv) (name : ByteArray) (hn : name.size <= 1000000) :
  PC prog 108 [z0m u, z0n id, .str name] (.tup [z0m (if z9f u id name = 0 then z0p id (fun q => q.setLabel name) u else T.zero), .int .i64 (z9f u id name)]) := by
 have hp := z6k (z4w id u).1 u hu
 have c1 := z5t u hu (by omega) (by omega)
 have c2 := zqw name (by unfold maxLen; omega)
 have c3 := z5f id u hu
 have c4 := ztf id u hu
 have c5 := z5f (z4w id u).1 u hu
 have c6 := zgd (z05 (z4w id u).1 u).1.kids (z6j hp).1 (z05 id u).1.kind name id false
 refine z1g 3 (by simp only [pureD.pureL, z02, pureD, Bool.and_self]; rfl) (by simp only [pureD.pureL, z02, pureD, Bool.and_self]) (z14 [] func108 rfl (by decide +kernel) rfl ?_)
 show awp _ _ (Code.seq _ _) _ _
 rw [show Tryz.f108.results.toList = [.cell 6 27, .tmp 7] from rfl]
 by_cases h1 : standsT u = false
 ·rw [show z9f u id name = 1 from by unfold z9f; rw [if_pos (.inl h1)], if_neg (by decide)]
  rw [h1] at c1
  repeat' (first | refine zqj ?_ | ((first | refine zqh fun K J => ?_ | refine zqs (c1) ?_); (simp (disch := omega) only [go_sem, Nat.reduceBEq, ↓reduceIte, Nat.reduceAdd, Nat.reduceLeDiff])) | ((refine zqd _ rfl (fun hc => ?_) (fun hc => ?_)) <;> (first | (cases hc; done) | ((try simp only [] at hc); (try omega)))) | refine zqg ?_ | refine zqu (by (simp (disch := omega) only [go_sem, Nat.reduceBEq, ↓reduceIte, Nat.reduceAdd, Nat.reduceLeDiff]); rfl) rfl ?_ | (refine J _ ?_; clear J K))
  exact z0a rfl (Le.tup ⟨z12, Le.refl _, trivial⟩)
 by_cases h2 : z4f name = false
 ·rw [show z9f u id name = 1 from by unfold z9f; rw [if_pos (.inr h2)], if_neg (by decide)]
  rw [Bool.not_eq_false] at h1
  rw [h1] at c1
  rw [h2] at c2
  repeat' (first | refine zqj ?_ | ((first | refine zqh fun K J => ?_ | refine zqs (c1) ?_ | refine zqs (c2) ?_); (simp (disch := omega) only [go_sem, Nat.reduceBEq, ↓reduceIte, Nat.reduceAdd, Nat.reduceLeDiff])) | ((refine zqd _ rfl (fun hc => ?_) (fun hc => ?_)) <;> (first | (cases hc; done) | ((try simp only [] at hc); (try omega)))) | refine zqg ?_ | refine zqu (by (simp (disch := omega) only [go_sem, Nat.reduceBEq, ↓reduceIte, Nat.reduceAdd, Nat.reduceLeDiff]); rfl) rfl ?_ | (refine J _ ?_; clear J K))
  exact z0a rfl (Le.tup ⟨z12, Le.refl _, trivial⟩)
 have e0 : z9f u id name = (if (z05 id u).2 = false then 4 else if (z05 id u).1.kind = 0 then 9 else if z61 u id name = true then 10 else 0) := by unfold z9f; rw [if_neg (by rw [not_or]; exact ⟨h1, h2⟩)]
 rw [Bool.not_eq_false] at h1 h2
 rw [h1] at c1
 rw [h2] at c2
 by_cases h3 : (z05 id u).2 = false
 ·rw [show z9f u id name = 4 from by rw [e0, if_pos h3], if_neg (by decide)]
  rw [h3] at c3
  repeat' (first | refine zqj ?_ | ((first | refine zqh fun K J => ?_ | refine zqs (c1) ?_ | refine zqs (c2) ?_ | refine zqs (c3) ?_); (simp (disch := omega) only [go_sem, Nat.reduceBEq, ↓reduceIte, Nat.reduceAdd, Nat.reduceLeDiff])) | ((refine zqd _ rfl (fun hc => ?_) (fun hc => ?_)) <;> (first | (cases hc; done) | ((try simp only [] at hc); (try omega)))) | refine zqb ?_ | refine zqg ?_ | refine zqu (by (simp (disch := omega) only [go_sem, Nat.reduceBEq, ↓reduceIte, Nat.reduceAdd, Nat.reduceLeDiff]); rfl) rfl ?_ | (refine J _ ?_; clear J K))
  exact z0a rfl (Le.tup ⟨z12, Le.refl _, trivial⟩)
 rw [if_neg h3] at e0
 rw [Bool.not_eq_false] at h3
 rw [h3] at c3
 have hm : id ∈ idsT u := by rw [z27, decide_eq_true_eq] at h3; exact h3
 by_cases h4 : (z05 id u).1.kind = 0
 ·rw [show z9f u id name = 9 from by rw [e0, if_pos h4], if_neg (by decide)]
  have h4d : decide ((z05 id u).1.kind = 0) = true := decide_eq_true h4
  repeat' (first | refine zqj ?_ | ((first | refine zqh fun K J => ?_ | refine zqs (c1) ?_ | refine zqs (c2) ?_ | refine zqs (c3) ?_); (simp (disch := omega) only [go_sem, Nat.reduceBEq, ↓reduceIte, reduceCtorEq, Nat.reduceAdd, Nat.reduceLeDiff, h4d])) | ((refine zqd _ rfl (fun hc => ?_) (fun hc => ?_)) <;> (first | (cases hc; done) | ((try simp only [] at hc); (try omega)))) | refine zqb ?_ | refine zqg ?_ | refine zqu (by (simp (disch := omega) only [go_sem, Nat.reduceBEq, ↓reduceIte, Nat.reduceAdd, Nat.reduceLeDiff]); rfl) rfl ?_ | (refine J _ ?_; clear J K))
  exact z0a rfl (Le.tup ⟨z12, Le.refl _, trivial⟩)
 rw [if_neg h4] at e0
 have h4d : decide ((z05 id u).1.kind = 0) = false := decide_eq_false h4
 by_cases h5 : (z05 id u).1.label = name
 ·rw [show z9f u id name = 10 from by rw [e0, if_pos (by unfold z61; rw [decide_eq_true h5]; rfl)], if_neg (by decide)]
  have h5d : decide ((z05 id u).1.label = name) = true := decide_eq_true h5
  repeat' (first | refine zqj ?_ | ((first | refine zqh fun K J => ?_ | refine zqs (c1) ?_ | refine zqs (c2) ?_ | refine zqs (c3) ?_); (simp (disch := omega) only [go_sem, Nat.reduceBEq, ↓reduceIte, reduceCtorEq, Nat.reduceAdd, Nat.reduceLeDiff, h4d, h5d])) | ((refine zqd _ rfl (fun hc => ?_) (fun hc => ?_)) <;> (first | (cases hc; done) | ((try simp only [] at hc); (try omega)))) | refine zqb ?_ | refine zqg ?_ | refine zqu (by (simp (disch := omega) only [go_sem, Nat.reduceBEq, ↓reduceIte, Nat.reduceAdd, Nat.reduceLeDiff]); rfl) rfl ?_ | (refine J _ ?_; clear J K))
  exact z0a rfl (Le.tup ⟨z12, Le.refl _, trivial⟩)
 have h5d : decide ((z05 id u).1.label = name) = false := decide_eq_false h5
 have eb : z61 u id name = ((z4w id u).2.2 && z3b (z05 (z4w id u).1 u).1.kids (z05 id u).1.kind name) := by unfold z61; rw [h5d, Bool.false_or]
 have hfin : z61 u id name = false -> z0p ((z05 id u).1.setLabel name).id (fun q => ((z05 id u).1.setLabel name).setKids q.kids) u = z0p id (fun q => q.setLabel name) u := fun _ => by
  obtain ⟨_, _, hfi, _, _⟩ := focus id u hm
  exact zh3 (f := fun q => q.setLabel name) (z17 h1) hm rfl hfi (fun q => rfl)
 have hx := z6k id u hu
 have c7 := zod ((z05 id u).1.setLabel name) u hu
 rw [show z0m ((z05 id u).1.setLabel name) = .agg _ from by rw [z0m, z0f]] at c7
 cases hpar : (z4w id u).2.2
 ·have e1 : z61 u id name = false := by rw [eb, hpar]; rfl
  rw [show z9f u id name = 0 from by rw [e0, if_neg (by rw [e1]; simp)], if_pos rfl]
  rw [hfin e1] at c7
  rw [hpar] at c4
  rw [show z0m (z05 id u).1 = .agg _ from by rw [z0m, z0f]] at c3
  repeat' (first | refine zqj ?_ | ((first | refine zqh fun K J => ?_ | refine zqs (c1) ?_ | refine zqs (c2) ?_ | refine zqs (c3) ?_ | refine zqs (c4) ?_ | refine zqs (c7) ?_); (simp (disch := omega) only [go_sem, Nat.reduceBEq, ↓reduceIte, reduceCtorEq, Nat.reduceAdd, Nat.reduceLeDiff, Nat.reduceLT, h4d, h5d, List.set_cons_succ, List.set_cons_zero])) | ((refine zqd _ rfl (fun hc => ?_) (fun hc => ?_)) <;> (first | (cases hc; done) | ((try simp only [] at hc); (try omega)))) | refine zqb ?_ | refine zqn ?_ | refine zqu (by (simp (disch := omega) only [go_sem, Nat.reduceBEq, ↓reduceIte, Nat.reduceLeDiff]); rfl) rfl ?_ | (refine J _ ?_; clear J K))
  refine z0a ?_ (Le.refl _)
  simp only [pureD, pureD.pureL, z04, Bool.and_self]
 ·rw [hpar] at c4 eb
  rw [Bool.true_and] at eb
  rw [ztx h1 hm h5 hpar, <- eb] at c6
  cases e1 : z61 u id name
  ·rw [show z9f u id name = 0 from by rw [e0, if_neg (by rw [e1]; simp)], if_pos rfl]
   rw [hfin e1] at c7
   rw [e1] at c6
   rw [show z0m (z05 id u).1 = .agg _ from by rw [z0m, z0f]] at c3
   repeat' (first | refine zqj ?_ | ((first | refine zqh fun K J => ?_ | refine zqs (c1) ?_ | refine zqs (c2) ?_ | refine zqs (c3) ?_ | refine zqs (c4) ?_ | refine zqs (c5) ?_ | refine zqs (c6) ?_ | refine zqs (c7) ?_); (simp (disch := omega) only [go_sem, Nat.reduceBEq, ↓reduceIte, reduceCtorEq, Nat.reduceAdd, Nat.reduceLeDiff, Nat.reduceLT, z13, h4d, h5d, List.set_cons_succ, List.set_cons_zero])) | ((refine zqd _ rfl (fun hc => ?_) (fun hc => ?_)) <;> (first | (cases hc; done) | ((try simp only [] at hc); (try omega)))) | refine zqb ?_ | refine zqn ?_ | refine zqu (by (simp (disch := omega) only [go_sem, Nat.reduceBEq, ↓reduceIte, Nat.reduceLeDiff]); rfl) rfl ?_ | (refine J _ ?_; clear J K))
   refine z0a ?_ (Le.refl _)
   simp only [pureD, pureD.pureL, z04, Bool.and_self]
  ·rw [show z9f u id name = 10 from by rw [e0, if_pos e1], if_neg (by decide)]
   rw [e1] at c6
   repeat' (first | refine zqj ?_ | ((first | refine zqh fun K J => ?_ | refine zqs (c1) ?_ | refine zqs (c2) ?_ | refine zqs (c3) ?_ | refine zqs (c4) ?_ | refine zqs (c5) ?_ | refine zqs (c6) ?_); (simp (disch := omega) only [go_sem, Nat.reduceBEq, ↓reduceIte, reduceCtorEq, Nat.reduceAdd, Nat.reduceLeDiff, z13, h4d, h5d])) | ((refine zqd _ rfl (fun hc => ?_) (fun hc => ?_)) <;> (first | (cases hc; done) | ((try simp only [] at hc); (try omega)))) | refine zqb ?_ | refine zqg ?_ | refine zqu (by (simp (disch := omega) only [go_sem, Nat.reduceBEq, ↓reduceIte, Nat.reduceAdd, Nat.reduceLeDiff]); rfl) rfl ?_ | (refine J _ ?_; clear J K))
   exact z0a rfl (Le.tup ⟨z12, Le.refl _, trivial⟩)
namespace Tr
def zu6 (l : List Wd) : Bool := l.any fun w => !z6e w.text
def z1k (u : T) (id : Idv) (l : List Wd) : Int :=
 if standsT u = false \/ zu6 l = true then 1 else
 if (z05 id u).2 = false then 4 else
 if (z05 id u).1.kind = 0 then 9 else
 if 256 < l.length then 6 else 0
theorem z8r {u : T} {id : Idv} {l : List Wd} (h : z1k u id l = 0) : standsT u = true /\ id ∈ idsT u /\ zu6 l = false /\ ¬ (z05 id u).1.kind = 0 /\ l.length <= 256 := by
 unfold z1k at h
 split at h
 ·cases h
 rename_i h1
 split at h
 ·cases h
 rename_i h2
 split at h
 ·cases h
 rename_i h3
 split at h
 ·cases h
 rename_i h4
 rw [not_or, Bool.not_eq_false, Bool.not_eq_true] at h1
 rw [Bool.not_eq_false, z27, decide_eq_true_eq] at h2
 exact ⟨h1.1, h2, h1.2, h3, by omega⟩
end Tr
theorem zuo (w : Wd) (hw : w.text.size <= maxLen) : PC prog 139 [z7c w] (.bool (!z6e w.text)) := by
 have c1 := zi8 true [w.text] (by unfold maxLen; simp) (by intro s hs; simp at hs; subst hs; exact hw)
 rw [show zx9 [w.text] = z6e w.text from by unfold zx9; simp] at c1
 refine z1g 1 rfl rfl (z14 [] func139 rfl (by decide +kernel) rfl ?_)
 show awp _ _ (Code.seq _ _) _ _
 repeat' (first | ((first | refine zqh fun K J => ?_ | refine zqs (c1) ?_); (simp (disch := omega) only [go_sem, Nat.reduceBEq, ↓reduceIte, reduceCtorEq, Nat.reduceAdd, Nat.reduceLeDiff])) | refine zqn ?_ | refine zqu (by simp only [go_sem]; rfl) rfl ?_ | (refine J _ ?_; clear J K))
 exact z03 rfl
theorem zup (u : T) (hu : szB u = true) (cu : cntT u <= 1000000) (du : depT u <= 1000000) (l : List Wd) (hl : l.length <= 1000000) (hw : ∀ w ∈ l, w.text.size <= maxLen) : PC prog 141 [.rptr (z0m u), .rptr (z0r l), .rptr (.fn 139 [])] (.bool (!standsT u || zu6 l)) := by
 have c1 := z8d u hu (by omega) (by omega)
 have c2 := zex false l (by unfold maxLen; omega) (g := 139) (cap := []) (fun w => !z6e w.text) rfl (fun w h => zuo w (hw w h))
 refine z1g 1 (by simp only [pureD.pureL, z02, z0d, pureD, Bool.and_self]) rfl (z14 [] func141 rfl (by decide +kernel) rfl ?_)
 show awp _ _ (Code.seq _ _) _ _
 repeat' (first | ((first | refine zqh fun K J => ?_ | refine zqs (c1) ?_ | refine zqs (c2) ?_); (simp (disch := omega) only [go_sem, Nat.reduceBEq, ↓reduceIte, Nat.reduceAdd, z0r])) | refine zqn ?_ | refine zqu (by simp only [go_sem]; rfl) rfl ?_ | (refine J _ ?_; clear J K) | (refine zqf (fun hb => ?_) (fun hb => ?_) <;> (have hb2 := hb; try simp only [z0b] at hb2) <;> ((have hb3 : (_ : Bool) = _ := hb2); (simp (disch := omega) only [go_sem, Nat.reduceBEq, ↓reduceIte, Nat.reduceAdd, hb3]); clear hb hb3; (try omega))))
 all_goals exact z03 (by simp [hb2, zu6])
theorem zuq (ok : Bool) : PC prog 143 [.rptr (.bool ok)] (.bool (!ok)) := by
 refine z1g 1 (by simp only [pureD.pureL, pureD, Bool.and_self]) rfl (z14 [] func143 rfl (by decide +kernel) rfl ?_)
 show awp _ _ (Code.seq _ _) _ _
 repeat' (first | ((refine zqh fun K J => ?_); (simp (disch := omega) only [go_sem, Nat.reduceBEq, ↓reduceIte, Nat.reduceAdd])) | refine zqn ?_ | refine zqu (by simp only [go_sem]; rfl) rfl ?_ | (refine J _ ?_; clear J K))
 exact z03 rfl
theorem zur (x : T) : PC prog 144 [.rptr (z0m x)] (.bool (decide (x.kind = 0))) := by
 refine z1g 1 (by simp only [pureD.pureL, z02, pureD, Bool.and_self]) rfl (z14 [] func144 rfl (by decide +kernel) rfl ?_)
 show awp _ _ (Code.seq _ _) _ _
 repeat' (first | ((refine zqh fun K J => ?_); (simp (disch := omega) only [go_sem, Nat.reduceBEq, ↓reduceIte, reduceCtorEq, Nat.reduceAdd])) | refine zqn ?_ | refine zqu (by simp only [go_sem]; rfl) rfl ?_ | (refine J _ ?_; clear J K))
 exact z03 rfl
theorem zus (l : List Wd) : PC prog 145 [.rptr (z0r l)] (.bool (decide (256 < l.length))) := by
 refine z1g 1 (by simp only [pureD.pureL, z0d, pureD, Bool.and_self]) rfl (z14 [] func145 rfl (by decide +kernel) rfl ?_)
 show awp _ _ (Code.seq _ _) _ _
 repeat' (first | ((refine zqh fun K J => ?_); (simp (disch := omega) only [go_sem, Nat.reduceBEq, ↓reduceIte, Nat.reduceAdd, z0r])) | refine zqn ?_ | refine zqu (by simp only [go_sem]; rfl) rfl ?_ | (refine J _ ?_; clear J K))
 exact z03 (decide_eq_decide.2 (by omega))
theorem zni (u : T) (id : Idv) (l : List Wd) (f1 f2 f3 f4 : FuncId) (c1 c2 c3 c4 : List D) : z89 [(f1, c1, 1, !standsT u || zu6 l), (f2, c2, 4, !(z05 id u).2), (f3, c3, 9, decide ((z05 id u).1.kind = 0)), (f4, c4, 6, decide (256 < l.length))] = z1k u id l := by
 unfold z1k
 cases h1 : standsT u
 ·rw [if_pos (.inl rfl)]; rfl
 by_cases h2 : zu6 l = true
 ·rw [if_pos (.inr h2), h2]; rfl
 rw [Bool.not_eq_true] at h2
 rw [h2]
 rw [if_neg (by simp)]
 cases h3 : (z05 id u).2
 ·rw [if_pos rfl]; rfl
 rw [if_neg (by simp)]
 by_cases h4 : (z05 id u).1.kind = 0
 ·rw [if_pos h4, decide_eq_true h4]; rfl
 rw [if_neg h4, decide_eq_false h4]
 by_cases h5 : 256 < l.length
 ·rw [if_pos h5, decide_eq_true h5]; rfl
 ·rw [if_neg h5, decide_eq_false h5]; rfl
theorem zpd (u : T) (hu : szB u = true) (cu : cntT u <= 1000000) (du : depT u <= 1000000) (id : Idv) (l : List Wd) (hl : l.length <= 1000000) (hw : ∀ w ∈ l, w.text.size <= maxLen) (f : T -> T) {g : FuncId} {cp : List D} (hc : pureD.pureL cp = true)
  (hg : ∀ q : T, PC prog g (z0m q :: cp) (z0m (f q))) :
  PC prog 86 [z0m u, z0n id, z0r l, .fn g cp] (.tup [z0m (if z1k u id l = 0 then z0p id f u else T.zero), .int .i64 (z1k u id l)]) := by
 have c3 := z93 u (z8b u hu) (by omega) id
 have c4 := zas [(141, [.rptr (z0m u), .rptr (z0r l), .rptr (.fn 139 [])], 1, !standsT u || zu6 l), (143, [.rptr (.bool (z05 id u).2)], 4, !(z05 id u).2), (144, [.rptr (z0m (z05 id u).1)], 9, decide ((z05 id u).1.kind = 0)), (145, [.rptr (z0r l)], 6, decide (256 < l.length))]
  (by simp) (by
   intro c hc
   simp only [List.mem_cons, List.not_mem_nil, or_false] at hc
   rcases hc with rfl | rfl | rfl | rfl
   ·exact ⟨by simp only [pureD.pureL, z02, z0d, pureD, Bool.and_self], zup u hu cu du l hl hw⟩
   ·exact ⟨rfl, zuq _⟩
   ·exact ⟨by simp only [pureD.pureL, z02, pureD, Bool.and_self], zur _⟩
   ·exact ⟨by simp only [pureD.pureL, z0d, pureD, Bool.and_self], zus l⟩)
 rw [zni] at c4
 refine z1g 3 (by simp only [pureD.pureL, z02, z0d, pureD, hc, Bool.and_self]; rfl) (by simp only [pureD.pureL, z02, pureD, Bool.and_self]) (z14 [] func86 rfl (by decide +kernel) rfl ?_)
 show awp _ _ (Code.seq _ _) _ _
 rw [show Tryz.f86.results.toList = [.cell 8 27, .tmp 9] from rfl]
 by_cases ht : z1k u id l = 0
 ·obtain ⟨h1, hm, _, _, _⟩ := z8r ht
  have c5 := zgc u hu id f hc (fun q _ _ => hg q)
  rw [(show (atR id f u).1 = z0p id f u from by rw [zfn _ (z17 h1) hm])] at c5
  rw [ht] at c4 ⊢
  rw [if_pos rfl]
  repeat' (first | ((first | refine zqh fun K J => ?_ | refine zqs (c3) ?_); (simp (disch := omega) only [go_sem, Nat.reduceBEq, ↓reduceIte, reduceCtorEq, Nat.reduceAdd, Nat.reduceMul, Nat.reduceLeDiff, Nat.reduceLT])) | (refine J _ ?_; clear J K))
  refine z1d (PC.borrow c4 rfl 6 (z00 (z35 5 rfl (z00 (z11 _ 2 rfl (z00 (z06 (e := 27) 1 ?_ z0l (z04 _)) (z00 (z2c (e := 24) 2 ?_ zfb (z08 1 (z0d _))) (z00 (z2c (e := 148) 2 ?_ zmd (z08 1 rfl)) z0c)))) (z00 (z11 _ 2 rfl (z00 (z2c (e := 4) 2 ?_ zgf (z08 1 rfl)) z0c)) (z00 (z11 _ 2 rfl (z00 (z06 (e := 27) 1 ?_ z0l (z04 _)) z0c)) (z00 (z11 _ 2 rfl (z00 (z2c (e := 24) 2 ?_ zfb (z08 1 (z0d _))) z0c)) z0c))))) z0c)) ?_
  all_goals try (focus ((simp (disch := omega) only [go_sem, Nat.reduceBEq]); done))
  (try (simp (disch := omega) only [go_sem, Nat.reduceBEq])); repeat' (first | refine zqj ?_ | ((first | refine zqh fun K J => ?_ | refine zqs (c5) ?_); (simp (disch := omega) only [go_sem, Nat.reduceBEq, ↓reduceIte, Nat.reduceAdd, Nat.reduceLeDiff])) | ((refine zqd _ rfl (fun hc => ?_) (fun hc => ?_)) <;> (first | (cases hc; done) | ((try simp only [] at hc); (try omega)))) | refine zqb ?_ | refine zqn ?_ | refine zqu (by (simp (disch := omega) only [go_sem, Nat.reduceBEq, ↓reduceIte, Nat.reduceLeDiff]); rfl) rfl ?_ | (refine J _ ?_; clear J K))
  refine z0a ?_ (Le.refl _)
  simp only [pureD, pureD.pureL, z04, Bool.and_self]
 ·rw [if_neg ht]
  repeat' (first | ((first | refine zqh fun K J => ?_ | refine zqs (c3) ?_); (simp (disch := omega) only [go_sem, Nat.reduceBEq, ↓reduceIte, reduceCtorEq, Nat.reduceAdd, Nat.reduceMul, Nat.reduceLeDiff, Nat.reduceLT])) | (refine J _ ?_; clear J K))
  refine z1d (PC.borrow c4 rfl 6 (z00 (z35 5 rfl (z00 (z11 _ 2 rfl (z00 (z06 (e := 27) 1 ?_ z0l (z04 _)) (z00 (z2c (e := 24) 2 ?_ zfb (z08 1 (z0d _))) (z00 (z2c (e := 148) 2 ?_ zmd (z08 1 rfl)) z0c)))) (z00 (z11 _ 2 rfl (z00 (z2c (e := 4) 2 ?_ zgf (z08 1 rfl)) z0c)) (z00 (z11 _ 2 rfl (z00 (z06 (e := 27) 1 ?_ z0l (z04 _)) z0c)) (z00 (z11 _ 2 rfl (z00 (z2c (e := 24) 2 ?_ zfb (z08 1 (z0d _))) z0c)) z0c))))) z0c)) ?_
  all_goals try (focus ((simp (disch := omega) only [go_sem, Nat.reduceBEq]); done))
  (try (simp (disch := omega) only [go_sem, Nat.reduceBEq])); repeat' (first | refine zqj ?_ | ((refine zqh fun K J => ?_); (simp (disch := omega) only [go_sem, Nat.reduceBEq, ↓reduceIte, Nat.reduceAdd, Nat.reduceLeDiff])) | ((refine zqd _ rfl (fun hc => ?_) (fun hc => ?_)) <;> (((try simp only [z0b] at hc); (try omega)))) | refine zqg ?_ | refine zqu (by (simp (disch := omega) only [go_sem, Nat.reduceBEq, ↓reduceIte, Nat.reduceAdd, Nat.reduceLeDiff]); rfl) rfl ?_ | (refine J _ ?_; clear J K))
  exact z0a rfl (Le.tup ⟨z12, Le.refl _, trivial⟩)
theorem zkv (q : T) (l : List Wd) (hl : l.length <= 1000000) : PC prog 87 [z0m q, .rptr (z0r l)] (z0m (q.setWords l)) := by
 have c1 := zd0 l hl
 refine z1g 5 (by simp only [pureD.pureL, z02, z0d, pureD, Bool.and_self]) (z02 _) (z14 [] func87 rfl (by decide +kernel) rfl ?_)
 show awp _ _ (Code.seq _ _) _ _
 rw [show Tryz.f87.results.toList = [.cell 3 27] from rfl]
 rw [show z0m q = .agg _ from by rw [z0m, z0f]]
 repeat' (first | ((first | refine zqh fun K J => ?_ | refine zjk (c1) ?_); (simp (disch := omega) only [go_sem, Nat.reduceBEq, ↓reduceIte, reduceCtorEq, Nat.reduceAdd, Nat.reduceLeDiff, Nat.reduceLT, z0r, zot, List.set_cons_succ, List.set_cons_zero])) | refine zqn ?_ | refine zqu (by (simp (disch := omega) only [go_sem, Nat.reduceBEq, ↓reduceIte, Nat.reduceAdd, Nat.reduceLeDiff]); rfl) rfl ?_ | (refine J _ ?_; clear J K))
 rw [z0m, z0f]
 refine z50 (z5d 4 (by simp only [pureD.pureL, pureD, Bool.and_false, Bool.false_and]) (z00 (z08 3 rfl) (z00 (z08 3 rfl) (z00 (z08 3 rfl) (z00 (z08 3 rfl) (z00 (z08 3 rfl) (z00 (z08 3 (z0d _)) (z00 (z1y (f := z4j) (l := l) 2 rfl ?_ zaz zdw (fun _ => rfl) (fun _ => rfl)) (z00 (z08 3 (z0t _)) z0c)))))))))
 (simp (disch := omega) only [go_sem, Nat.reduceBEq])
theorem znj (u : T) (hu : szB u = true) (cu : cntT u <= 1000000) (du : depT u <= 1000000) (id : Idv) (l : List Wd) (hl : l.length <= 1000000) (hw : ∀ w ∈ l, w.text.size <= maxLen) :
  PC prog 30 [z0m u, z0n id, z0r l] (.tup [z0m (if z1k u id l = 0 then z0p id (fun q => q.setWords l) u else T.zero), .int .i64 (z1k u id l)]) := by
 have c1 := zpd u hu cu du id l hl hw (fun q => q.setWords l) (g := 87) (cp := [.rptr (z0r l)]) (by simp only [pureD.pureL, z0d, pureD, Bool.and_self]) (fun q => zkv q l hl)
 refine z1g 3 (by simp only [pureD.pureL, z02, z0d, Bool.and_self]; rfl) (by simp only [pureD.pureL, z02, pureD, Bool.and_self]) (z14 [] func30 rfl (by decide +kernel) rfl ?_)
 show awp _ _ (Code.seq _ _) _ _
 rw [show Tryz.f30.results.toList = [.cell 6 27, .tmp 7] from rfl]
 refine z3j fun K J => ?_
 (simp (disch := omega) only [go_sem, Nat.reduceBEq, Nat.reduceAdd])
 refine J _ _ (zq9 (b := 2) (j := 5) (e := 24) (cs := [z0r l]) (d := z0r l) (by (simp (disch := omega) only [go_sem, Nat.reduceBEq, Nat.reduceAdd])) (.inl rfl) (z0d _) (by (simp (disch := omega) only [go_sem, Nat.reduceBEq, Nat.reduceAdd]))) ?_
 clear J K
 repeat' (first | ((first | refine zqh fun K J => ?_ | refine zqs (c1) ?_); (simp (disch := omega) only [go_sem, Nat.reduceBEq, ↓reduceIte, Nat.reduceAdd, Nat.reduceLeDiff, z0r])) | refine zqn ?_ | refine zqu (by (simp (disch := omega) only [go_sem, Nat.reduceBEq, ↓reduceIte, Nat.reduceLeDiff]); rfl) rfl ?_ | (refine J _ ?_; clear J K))
 refine z0a ?_ (Le.refl _)
 simp only [pureD, pureD.pureL, z04, Bool.and_self]
theorem zhg (q : T) (l : List Wd) (hl : l.length <= 1000000) : PC prog 89 [z0m q, .rptr (z0r l)] (z0m (q.setHead l)) := by
 have c1 := zd0 l hl
 refine z1g 5 (by simp only [pureD.pureL, z02, z0d, pureD, Bool.and_self]) (z02 _) (z14 [] func89 rfl (by decide +kernel) rfl ?_)
 show awp _ _ (Code.seq _ _) _ _
 rw [show Tryz.f89.results.toList = [.cell 3 27] from rfl]
 rw [show z0m q = .agg _ from by rw [z0m, z0f]]
 repeat' (first | ((first | refine zqh fun K J => ?_ | refine zjk (c1) ?_); (simp (disch := omega) only [go_sem, Nat.reduceBEq, ↓reduceIte, reduceCtorEq, Nat.reduceAdd, Nat.reduceLeDiff, Nat.reduceLT, z0r, zot, List.set_cons_succ, List.set_cons_zero])) | refine zqn ?_ | refine zqu (by (simp (disch := omega) only [go_sem, Nat.reduceBEq, ↓reduceIte, Nat.reduceAdd, Nat.reduceLeDiff]); rfl) rfl ?_ | (refine J _ ?_; clear J K))
 rw [z0m, z0f]
 refine z50 (z5d 4 (by simp only [pureD.pureL, pureD, Bool.and_false, Bool.false_and]) (z00 (z08 3 rfl) (z00 (z08 3 rfl) (z00 (z08 3 rfl) (z00 (z08 3 rfl) (z00 (z08 3 rfl) (z00 (z1y (f := z4j) (l := l) 2 rfl ?_ zaz zdw (fun _ => rfl) (fun _ => rfl)) (z00 (z08 3 (z0d _)) (z00 (z08 3 (z0t _)) z0c)))))))))
 (simp (disch := omega) only [go_sem, Nat.reduceBEq])
theorem zj6 (u : T) (hu : szB u = true) (cu : cntT u <= 1000000) (du : depT u <= 1000000) (id : Idv) (l : List Wd) (hl : l.length <= 1000000) (hw : ∀ w ∈ l, w.text.size <= maxLen) :
  PC prog 31 [z0m u, z0n id, z0r l] (.tup [z0m (if z1k u id l = 0 then z0p id (fun q => q.setHead l) u else T.zero), .int .i64 (z1k u id l)]) := by
 have c1 := zpd u hu cu du id l hl hw (fun q => q.setHead l) (g := 89) (cp := [.rptr (z0r l)]) (by simp only [pureD.pureL, z0d, pureD, Bool.and_self]) (fun q => zhg q l hl)
 refine z1g 3 (by simp only [pureD.pureL, z02, z0d, Bool.and_self]; rfl) (by simp only [pureD.pureL, z02, pureD, Bool.and_self]) (z14 [] func31 rfl (by decide +kernel) rfl ?_)
 show awp _ _ (Code.seq _ _) _ _
 rw [show Tryz.f31.results.toList = [.cell 6 27, .tmp 7] from rfl]
 refine z3j fun K J => ?_
 (simp (disch := omega) only [go_sem, Nat.reduceBEq, Nat.reduceAdd])
 refine J _ _ (zq9 (b := 2) (j := 5) (e := 24) (cs := [z0r l]) (d := z0r l) (by (simp (disch := omega) only [go_sem, Nat.reduceBEq, Nat.reduceAdd])) (.inl rfl) (z0d _) (by (simp (disch := omega) only [go_sem, Nat.reduceBEq, Nat.reduceAdd]))) ?_
 clear J K
 repeat' (first | ((first | refine zqh fun K J => ?_ | refine zqs (c1) ?_); (simp (disch := omega) only [go_sem, Nat.reduceBEq, ↓reduceIte, Nat.reduceAdd, Nat.reduceLeDiff, z0r])) | refine zqn ?_ | refine zqu (by (simp (disch := omega) only [go_sem, Nat.reduceBEq, ↓reduceIte, Nat.reduceLeDiff]); rfl) rfl ?_ | (refine J _ ?_; clear J K))
 refine z0a ?_ (Le.refl _)
 simp only [pureD, pureD.pureL, z04, Bool.and_self]
namespace Tr
theorem zof {name : ByteArray} (hn : name.size <= 1000000) {q : T} (h : szB q = true) : szB (q.setLabel name) = true := by
 obtain ⟨_, h1, h2, h3, h4, h5, h6⟩ := (z2i q).1 h
 exact (z2i _).2 ⟨hn, h1, h2, h3, h4, h5, h6⟩
theorem zog {l : List Wd} (hl : l.length <= 1000000) (hw : ∀ w ∈ l, w.text.size <= 1000000) {q : T} (h : szB q = true) : szB (q.setWords l) = true := by
 obtain ⟨h0, h1, h2, _, _, h5, h6⟩ := (z2i q).1 h
 exact (z2i _).2 ⟨h0, h1, h2, hl, hw, h5, h6⟩
theorem zt6 {l : List Wd} (hl : l.length <= 1000000) (hw : ∀ w ∈ l, w.text.size <= 1000000) {q : T} (h : szB q = true) : szB (q.setHead l) = true := by
 obtain ⟨h0, _, _, h3, h4, h5, h6⟩ := (z2i q).1 h
 exact (z2i _).2 ⟨h0, hl, hw, h3, h4, h5, h6⟩
end Tr
theorem zm9 (u : T) (hu : szB u = true) (cu : cntT u <= 1000000) (du : depT u <= 1000000) (id : Idv) (l : List Wd) (hl : l.length <= 1000000) (hw : ∀ w ∈ l, w.text.size <= maxLen) (head : Bool) :
  PC prog 109 [z0m u, z0n id, z0r l, .bool head] (.tup [z0m (if z1k u id l = 0 then z0p id (fun q => if head = true then q.setHead l else q.setWords l) u else T.zero), .int .i64 (z1k u id l)]) := by
 have c1 := z5t u hu (by omega) (by omega)
 have c2 := fun (i : Nat) (h : i < l.length) => zxb l[i].text (hw _ (List.getElem_mem h))
 have c3 := z5f id u hu
 have hx := z6k id u hu
 refine z1g 3 (by simp only [pureD.pureL, z02, z0d, pureD, Bool.and_self]; rfl) (by simp only [pureD.pureL, z02, pureD, Bool.and_self]) (z14 [1000049, 1000051, 1000053, 1000055] func109 rfl (by decide +kernel) rfl ?_)
 show awp _ _ (Code.seq _ _) _ _
 rw [show Tryz.f109.results.toList = [.cell 8 27, .tmp 9] from rfl]
 by_cases h1 : standsT u = false
 ·rw [show z1k u id l = 1 from by unfold z1k; rw [if_pos (.inl h1)], if_neg (by decide)]
  rw [h1] at c1
  repeat' (first | refine zqj ?_ | ((first | refine zqh fun K J => ?_ | refine zqs (c1) ?_); (simp (disch := omega) only [go_sem, Nat.reduceBEq, ↓reduceIte, Nat.reduceAdd, Nat.reduceLeDiff])) | ((refine zqd _ rfl (fun hc => ?_) (fun hc => ?_)) <;> (first | (cases hc; done) | ((try simp only [] at hc); (try omega)))) | refine zqg ?_ | refine zqu (by (simp (disch := omega) only [go_sem, Nat.reduceBEq, ↓reduceIte, Nat.reduceAdd, Nat.reduceLeDiff]); rfl) rfl ?_ | (refine J _ ?_; clear J K))
  exact z0a rfl (Le.tup ⟨z12, Le.refl _, trivial⟩)
 rw [Bool.not_eq_false] at h1
 rw [h1] at c1
 repeat' (first | refine zqj ?_ | ((first | refine zqh fun K J => ?_ | refine zqs (c1) ?_); (simp (disch := omega) only [go_sem, Nat.reduceBEq, ↓reduceIte, Nat.reduceAdd, Nat.reduceLeDiff])) | ((refine zqd _ rfl (fun hc => ?_) (fun hc => ?_)) <;> (first | (cases hc; done) | ((try simp only [] at hc); (try omega)))) | refine zqa ?_ | refine zqb ?_ | (refine J _ ?_; clear J K))
 (refine z4m (fun U st => ∃ (i : _), U = l.length - i /\ st.t 2 = z0r l /\ st.t 3 = .bool head /\ st.t 4 = .ptr 0 0 /\ st.t 5 = .ptr 1 0 /\ st.t 8 = .ptr 2 0 /\ st.t 10 = .int .i64 i /\ st.H 0 = some (.box 27 (z0h u)) /\ st.H 1 = some (.box 23 (z07 id)) /\ st.H 2 = some (.box 27 [.int .i64 0, .int .i64 0, .int .i64 0, .int .i64 0, .str ByteArray.empty, .nil, .nil, .nil]) /\ st.nx = 3 /\ (i <= l.length) /\ ((l.take i).any (fun w => !z6e w.text) = false)) ?_ ?_); rotate_left; (rintro U st ⟨i, rfl, q2, q3, q4, q5, q8, q10, qH0, qH1, qH2, qnx, qp0, qp1⟩); rotate_left
 ·(refine ⟨_, 0, rfl, ?_⟩); (simp (disch := omega) only [go_sem, Nat.reduceBEq, and_self, Int.natCast_zero, z07])
  try simp
 by_cases hi : i < l.length
 ·have c2 := c2 i hi
  cases hwd : z6e l[i].text
  ·rw [hwd] at c2
   rw [show z1k u id l = 1 from by unfold z1k; rw [if_pos (.inr (zjv (f := fun w : Wd => !z6e w.text) hi (by rw [hwd]; rfl)))], if_neg (by decide)]
   repeat' (first | refine zqj ?_ | ((first | refine zqh fun K J => ?_ | refine zqs (c2) ?_); (simp (disch := omega) only [go_sem, Nat.reduceBEq, ↓reduceIte, reduceCtorEq, Nat.reduceAdd, Nat.reduceLeDiff, q2, q8, q10, qH2, qnx, z0r])) | ((first | refine zqd _ rfl (fun hc => ?_) (fun hc => ?_) | refine zqm _ rfl (fun hc => ?_) (fun hc => ?_)) <;> (first | (cases hc; done) | ((try simp only [z0b] at hc); (try omega)))) | refine zqa ?_ | refine zqb ?_ | refine zqn ?_ | refine zqx ?_ | refine z6q ?_ | refine zqo ?_ | refine zqu (by (simp (disch := omega) only [go_sem, Nat.reduceBEq, ↓reduceIte, Nat.reduceAdd, Nat.reduceLeDiff, q8, qH2]); rfl) rfl ?_ | (refine J _ ?_; clear J K))
   exact z0a rfl (Le.tup ⟨z12, Le.refl _, trivial⟩)
  ·rw [hwd] at c2
   repeat' (first | refine zqj ?_ | ((first | refine zqh fun K J => ?_ | refine zqr fun K J => ?_ | refine zqs (c2) ?_); (simp (disch := omega) only [go_sem, Nat.reduceBEq, ↓reduceIte, reduceCtorEq, Nat.reduceAdd, q2, q10, qnx, z0r])) | ((first | refine zqd _ rfl (fun hc => ?_) (fun hc => ?_) | refine zqm _ rfl (fun hc => ?_) (fun hc => ?_)) <;> (first | (cases hc; done) | ((try simp only [z0b] at hc); (try omega)))) | refine zqa ?_ | refine zqb ?_ | refine zqk ?_ | refine zqv ?_ | refine zqy ?_ | (refine J _ ?_; clear J K))
   (refine Exists.intro _ (And.intro ?_ ⟨i + 1, rfl, ?_⟩)); rotate_left; (simp (disch := omega) only [go_sem, Nat.reduceBEq, q2, q3, q4, q5, q8, q10, qH0, qH1, qH2, true_and, Int.natCast_add, Int.natCast_one, z07, z0r]); rotate_left
   ·omega
   ·exact ⟨by omega, z59 hi qp1 (by rw [hwd]; rfl)⟩
 ·have ho : zu6 l = false := zjw hi qp1
  have e0 : z1k u id l = (if (z05 id u).2 = false then 4 else if (z05 id u).1.kind = 0 then 9 else if 256 < l.length then 6 else 0) := by unfold z1k; rw [if_neg (by rw [h1, ho]; simp)]
  by_cases h3 : (z05 id u).2 = false
  ·rw [show z1k u id l = 4 from by rw [e0, if_pos h3], if_neg (by decide)]
   rw [h3] at c3
   repeat' (first | refine zqj ?_ | ((first | refine zqh fun K J => ?_ | refine zqs (c3) ?_); (simp (disch := omega) only [go_sem, Nat.reduceBEq, ↓reduceIte, Nat.reduceAdd, Nat.reduceLeDiff, q2, q4, q5, q8, q10, qH0, qH1, qH2, qnx, z07, z0r])) | ((refine zqd _ rfl (fun hc => ?_) (fun hc => ?_)) <;> (first | (cases hc; done) | ((try simp only [z0b] at hc); (try omega)))) | refine zqg ?_ | refine zqc ?_ | refine zqv ?_ | refine zqz ?_ | refine zqp ?_ | refine zqu (by (simp (disch := omega) only [go_sem, Nat.reduceBEq, ↓reduceIte, Nat.reduceAdd, Nat.reduceLeDiff, q8, qH2]); rfl) rfl ?_ | (refine J _ ?_; clear J K))
   exact z0a rfl (Le.tup ⟨z12, Le.refl _, trivial⟩)
  rw [if_neg h3] at e0
  rw [Bool.not_eq_false] at h3
  rw [h3] at c3
  have hm : id ∈ idsT u := by rw [z27, decide_eq_true_eq] at h3; exact h3
  by_cases h4 : (z05 id u).1.kind = 0
  ·rw [show z1k u id l = 9 from by rw [e0, if_pos h4], if_neg (by decide)]
   have h4d : decide ((z05 id u).1.kind = 0) = true := decide_eq_true h4
   repeat' (first | refine zqj ?_ | ((first | refine zqh fun K J => ?_ | refine zqs (c3) ?_); (simp (disch := omega) only [go_sem, Nat.reduceBEq, ↓reduceIte, reduceCtorEq, Nat.reduceAdd, Nat.reduceLeDiff, q2, q4, q5, q8, q10, qH0, qH1, qH2, qnx, z07, z0r, h4d])) | ((refine zqd _ rfl (fun hc => ?_) (fun hc => ?_)) <;> (first | (cases hc; done) | ((try simp only [z0b] at hc); (try omega)))) | refine zqb ?_ | refine zqg ?_ | refine zqc ?_ | refine zqv ?_ | refine zqz ?_ | refine zqp ?_ | refine zqu (by (simp (disch := omega) only [go_sem, Nat.reduceBEq, ↓reduceIte, Nat.reduceAdd, Nat.reduceLeDiff, q8, qH2]); rfl) rfl ?_ | (refine J _ ?_; clear J K))
   exact z0a rfl (Le.tup ⟨z12, Le.refl _, trivial⟩)
  rw [if_neg h4] at e0
  have h4d : decide ((z05 id u).1.kind = 0) = false := decide_eq_false h4
  by_cases h5 : 256 < l.length
  ·rw [show z1k u id l = 6 from by rw [e0, if_pos h5], if_neg (by decide)]
   repeat' (first | refine zqj ?_ | ((first | refine zqh fun K J => ?_ | refine zqs (c3) ?_); (simp (disch := omega) only [go_sem, Nat.reduceBEq, ↓reduceIte, reduceCtorEq, Nat.reduceAdd, Nat.reduceLeDiff, q2, q4, q5, q8, q10, qH0, qH1, qH2, qnx, z07, z0r, h4d])) | ((refine zqd _ rfl (fun hc => ?_) (fun hc => ?_)) <;> (first | (cases hc; done) | ((try simp only [z0b] at hc); (try omega)))) | refine zqb ?_ | refine zqg ?_ | refine zqc ?_ | refine zqv ?_ | refine zqz ?_ | refine zqp ?_ | refine zqu (by (simp (disch := omega) only [go_sem, Nat.reduceBEq, ↓reduceIte, Nat.reduceAdd, Nat.reduceLeDiff, q8, qH2]); rfl) rfl ?_ | (refine J _ ?_; clear J K))
   exact z0a rfl (Le.tup ⟨z12, Le.refl _, trivial⟩)
  rw [if_neg h5] at e0
  rw [e0, if_pos rfl]
  obtain ⟨_, _, hfi, _, _⟩ := focus id u hm
  rw [show z0m (z05 id u).1 = .agg _ from by rw [z0m, z0f]] at c3
  cases head
  ·have c7 := zod ((z05 id u).1.setWords l) u hu
   rw [zh3 (f := fun q => q.setWords l) (z17 h1) hm rfl hfi (fun q => rfl)] at c7
   rw [show z0m ((z05 id u).1.setWords l) = .agg _ from by rw [z0m, z0f]] at c7
   repeat' (first | refine zqj ?_ | ((first | refine zqh fun K J => ?_ | refine zqs (c3) ?_ | refine zqs (c7) ?_); (simp (disch := omega) only [go_sem, Nat.reduceBEq, ↓reduceIte, reduceCtorEq, Nat.reduceAdd, Nat.reduceMul, Nat.reduceLeDiff, Nat.reduceLT, q2, q3, q4, q5, q8, q10, qH0, qH1, qH2, qnx, z07, z0r, h4d, z4p, z92, za0, List.set_cons_succ, List.set_cons_zero])) | ((refine zqd _ rfl (fun hc => ?_) (fun hc => ?_)) <;> (first | (cases hc; done) | ((try simp only [z0b] at hc); (try omega)))) | refine zqb ?_ | refine zqc ?_ | refine zqn ?_ | refine zqv ?_ | refine zqz ?_ | refine zqp ?_ | refine zqu (by (simp (disch := omega) only [go_sem, Nat.reduceBEq, ↓reduceIte, Nat.reduceLeDiff, q8, qH2]); rfl) rfl ?_ | (refine J _ ?_; clear J K))
   simp only [Bool.false_eq_true, if_false]
   refine z0a ?_ (Le.refl _)
   simp only [pureD, pureD.pureL, z04, Bool.and_self]
  ·have c7 := zod ((z05 id u).1.setHead l) u hu
   rw [zh3 (f := fun q => q.setHead l) (z17 h1) hm rfl hfi (fun q => rfl)] at c7
   rw [show z0m ((z05 id u).1.setHead l) = .agg _ from by rw [z0m, z0f]] at c7
   repeat' (first | refine zqj ?_ | ((first | refine zqh fun K J => ?_ | refine zqs (c3) ?_ | refine zqs (c7) ?_); (simp (disch := omega) only [go_sem, Nat.reduceBEq, ↓reduceIte, reduceCtorEq, Nat.reduceAdd, Nat.reduceMul, Nat.reduceLeDiff, Nat.reduceLT, q2, q3, q4, q5, q8, q10, qH0, qH1, qH2, qnx, z07, z0r, h4d, z4p, z92, za0, List.set_cons_succ, List.set_cons_zero])) | ((refine zqd _ rfl (fun hc => ?_) (fun hc => ?_)) <;> (first | (cases hc; done) | ((try simp only [z0b] at hc); (try omega)))) | refine zqb ?_ | refine zqc ?_ | refine zqn ?_ | refine zqv ?_ | refine zqz ?_ | refine zqp ?_ | refine zqu (by (simp (disch := omega) only [go_sem, Nat.reduceBEq, ↓reduceIte, Nat.reduceLeDiff, q8, qH2]); rfl) rfl ?_ | (refine J _ ?_; clear J K))
   simp only [if_true]
   refine z0a ?_ (Le.refl _)
   simp only [pureD, pureD.pureL, z04, Bool.and_self]
end
section
open Abs Facts Tr
attribute [local irreducible] awp
set_option maxRecDepth 100000
def fldE (f : T -> T) : zsm := fun w c r H n => (z0k H c (some (nodeB (f w.own) (kdR r w.kids.length))), n)
def rowE (w : V) (c q : Nat) (ks : List V) (H : HM) : HM := z0k (z0k H q (some (rowV ks))) c (some (nodeB w.own (.osl q ks.length)))
def outK (i : Idv) (w : V) : List V := w.kids.filter fun k => !decide (k.own.id = i)
def outE (i : Idv) : zsm := fun w c r H n => (rowE w c n (outK i w) (z0k H (r.getD 0) none), n + 1)
def zdc (w : V) (c : Nat) (r : Option Nat) (H : HM) (n : Nat) : Nat × HM × Nat := match r with
 | some q => (q, H, n)
 | none => (n, z0k (z0k H n (some row0)) c (some (nodeB w.own (.osl n 0))), n + 1)
def zp8 (at_ : Nat) (x : V) (w : V) : List V := w.kids.take at_ ++ x :: w.kids.drop at_
def movE (at_ : Nat) (x : V) : zsm := fun w c r H n => (rowE w c (zdc w c r H n).1 (zp8 at_ x w) (zdc w c r H n).2.1, (zdc w c r H n).2.2)
def insE (at_ : Nat) (t : T) : zsm := fun w c r H n =>
 let g := z67 t (zdc w c r H n).2.1 (zdc w c r H n).2.2
 (rowE w c (zdc w c r H n).1 (zp8 at_ g.1 w) g.2.1, g.2.2)
theorem zj3 {lo m n c : Nat} {H : HM} {r : Option Nat} {w : V} {Q : V -> V -> Prop} (hp : PreE lo m H n c r w) {q n2 : Nat} {ks : List V} {H2 : HM} (hq : m <= q) (hqc : q ≠ c) (hqn : q < n2) (hn : n <= n2) (hag : Agree m H H2)
  (hks : ∀ k ∈ ks, Stand H2 k /\ ∀ j ∈ objsV k, (j < lo \/ m <= j) /\ j < n2 /\ j ≠ q /\ j ≠ c) (hQ : Q w (.mk c (some q) w.own ks)) : PostE lo m H n c w Q (rowE w c q ks H2, n2) (.mk c (some q) w.own ks) := by
 have hmc := hp.mc
 have hcn := hp.cn
 unfold rowE
 have hobj : ∀ j ∈ objsV (.mk c (some q) w.own ks), j = c \/ j = q \/ ∃ k ∈ ks, j ∈ objsV k := fun j hj => by
  rw [z7v, List.mem_cons, List.mem_append] at hj
  rcases hj with e | hj | hj
  ·exact .inl e
  ·have hj : j ∈ (some q).toList := hj
   simp only [Option.toList_some, List.mem_singleton] at hj
   exact .inr (.inl hj)
  ·obtain ⟨k, hk, hj⟩ := List.mem_flatMap.1 hj
   exact .inr (.inr ⟨k, hk, hj⟩)
 refine ⟨rfl, rfl, (z29 _ _).2 ⟨?_, ?_, fun k hk => ?_⟩, fun j hj => ?_, fun j hj => ?_, hn, fun j hj => ?_, hQ⟩
 ·exact z28 _ _ _
 ·show z0k (z0k H2 q _) c _ q = _
  rw [z01 _ hqc, z28]; rfl
 ·refine Stand.on k (fun j hj => ?_) (hks k hk).1
  have := (hks k hk).2 j hj
  show z0k (z0k H2 q _) c _ j = _
  rw [z01 _ (by omega), z01 _ (by omega)]
 ·rcases hobj j hj with e | e | ⟨k, hk, hj⟩
  ·simp only; omega
  ·simp only; omega
  ·exact ((hks k hk).2 j hj).2.1
 ·rcases hobj j hj with e | e | ⟨k, hk, hj⟩
  ·omega
  ·omega
  ·exact ((hks k hk).2 j hj).1
 ·show z0k (z0k H2 q _) c _ j = _
  rw [z01 _ (by omega), z01 _ (by omega), hag j hj]
theorem zn9 {f : T -> T} (hf : ∀ q : T, (f q).id = q.id /\ (f q).setKids q.kids = f q) {lo : Nat} {H0 : HM} {w : V} : zo4 lo H0 (fldE f) (fun w w' => w'.own = f w.own /\ w'.kids = w.kids) w := fun m H n c r hp _ => by
 have hmc := hp.mc
 have hcn := hp.cn
 have hlom := hp.lom
 have hobj : ∀ j ∈ objsV (.mk c r (f w.own) w.kids), j = c \/ (m <= j /\ j < c) \/ j < lo := fun j hj => by
  rw [z7v, List.mem_cons, List.mem_append] at hj
  rcases hj with e | hj | hj
  ·exact .inl e
  ·have hj : j ∈ r.toList := hj
   cases hr : r with
   | none => rw [hr] at hj; cases hj
   | some q =>
    rw [hr] at hj
    simp only [Option.toList_some, List.mem_singleton] at hj
    have := hp.row q hr
    exact .inr (.inl ⟨by omega, by omega⟩)
  ·obtain ⟨k, hk, hj⟩ := List.mem_flatMap.1 hj
   exact .inr (.inr ((hp.kids k hk).2 j hj))
 refine ⟨.mk c r (f w.own) w.kids, rfl, (hf w.own).1, (z29 _ _).2 ⟨z28 _ _ _, ?_, fun k hk => ?_⟩, fun j hj => ?_, fun j hj => ?_, Nat.le_refl _, fun j hj => z01 _ (by omega), rfl, rfl⟩
 ·unfold zj9
  cases r with
  | none => exact hp.nor rfl
  | some q =>
   obtain ⟨h1, h2, h3⟩ := hp.row q rfl
   show z0k H c _ q = _
   rw [z01 _ (by omega), h3]; rfl
 ·refine Stand.on k (fun j hj => ?_) (hp.kids k hk).1
  have := (hp.kids k hk).2 j hj
  exact z01 _ (by omega)
 ·have := hobj j hj
  show j < n
  omega
 ·have := hobj j hj; omega
theorem zub {i : Idv} {lo : Nat} {H0 : HM} {w : V} (hk : ∃ k ∈ w.kids, k.own.id = i) : zo4 lo H0 (outE i) (fun w w' => w'.own = w.own /\ w'.kids = outK i w) w := fun m H n c r hp _ => by
 have hmc := hp.mc
 have hcn := hp.cn
 have hlom := hp.lom
 obtain ⟨q, rfl⟩ : ∃ q, r = some q := by
  cases hr : r with
  | none =>
   obtain ⟨k, hk, _⟩ := hk
   rw [hp.nor hr] at hk; cases hk
  | some q => exact ⟨q, rfl⟩
 obtain ⟨h1, h2, h3⟩ := hp.row q rfl
 refine ⟨_, zj3 hp (q := n) (ks := outK i w) (n2 := n + 1) (H2 := z0k H q none) (by omega) (by omega) (by omega) (by omega) (fun j hj => z01 _ (by omega)) (fun k hk => ?_) ⟨rfl, rfl⟩⟩
 obtain ⟨g1, g2⟩ := hp.kids k (List.mem_filter.1 hk).1
 exact ⟨Stand.on k (fun j hj => z01 _ (by have := g2 j hj; omega)) g1, fun j hj => by have := g2 j hj; omega⟩
theorem zar {lo m n c : Nat} {H : HM} {r : Option Nat} {w : V} (hp : PreE lo m H n c r w) : let o := zdc w c r H n
  m <= o.1 /\ o.1 ≠ c /\ o.1 < o.2.2 /\ n <= o.2.2 /\ Agree m H o.2.1 /\ o.2.1 c = some (nodeB w.own (.osl o.1 w.kids.length)) /\ o.2.1 o.1 = some (rowV w.kids) /\ (∀ k ∈ w.kids, Stand o.2.1 k /\ Under lo k) := by
 have hmc := hp.mc
 have hcn := hp.cn
 have hlom := hp.lom
 cases hr : r with
 | none =>
  have hn0 := hp.nor hr
  unfold zdc
  simp only
  refine ⟨by omega, by omega, by omega, by omega, fun j hj => ?_, ?_, ?_, fun k hk => ?_⟩
  ·rw [z01 _ (by omega), z01 _ (by omega)]
  ·rw [z28, hn0]; rfl
  ·rw [z01 _ (by omega), z28, hn0]; rfl
  ·rw [hn0] at hk; cases hk
 | some q =>
  obtain ⟨h1, h2, h3⟩ := hp.row q hr
  have hb := hp.box
  rw [hr] at hb
  unfold zdc
  simp only
  exact ⟨by omega, by omega, by omega, Nat.le_refl _, Agree.refl _ _, hb, h3, hp.kids⟩
theorem eff_mov {at_ : Nat} {x : V} {lo : Nat} {H0 : HM} {w : V} (hx : Stand H0 x) (hux : Under lo x) : zo4 lo H0 (movE at_ x) (fun w w' => w'.own = w.own /\ w'.kids = zp8 at_ x w) w := fun m H n c r hp h0 => by
 have hmc := hp.mc
 have hcn := hp.cn
 have hlom := hp.lom
 obtain ⟨a1, a2, a3, a4, a5, a6, a7, a8⟩ := zar hp
 unfold movE
 generalize zdc w c r H n = o at a1 a2 a3 a4 a5 a6 a7 a8 ⊢
 refine ⟨_, zj3 hp (q := o.1) (ks := zp8 at_ x w) (n2 := o.2.2) (H2 := o.2.1) a1 a2 a3 a4 a5 (fun k hk => ?_) ⟨rfl, rfl⟩⟩
 have old : ∀ k, Stand o.2.1 k -> Under lo k -> Stand o.2.1 k /\ ∀ j ∈ objsV k, (j < lo \/ m <= j) /\ j < o.2.2 /\ j ≠ o.1 /\ j ≠ c := fun k h1 h2 => ⟨h1, fun j hj => by have := h2 j hj; omega⟩
 unfold zp8 at hk
 rcases List.mem_append.1 hk with hk | hk
 ·exact old k (a8 k (List.mem_of_mem_take hk)).1 (a8 k (List.mem_of_mem_take hk)).2
 ·rcases List.mem_cons.1 hk with rfl | hk
  ·exact old k (Stand.on k (fun j hj => by have := hux j hj; rw [a5 j (by omega), h0 j this]) hx) hux
  ·exact old k (a8 k (List.mem_of_mem_drop hk)).1 (a8 k (List.mem_of_mem_drop hk)).2
theorem eff_ins {at_ : Nat} {t : T} {lo : Nat} {H0 : HM} {w : V} : zo4 lo H0 (insE at_ t) (fun w w' => w'.own = w.own /\ ∃ g, treeV g = t /\ (objsV g).Nodup /\ (∀ j ∈ objsV g, lo <= j) /\ w'.kids = zp8 at_ g w) w := fun m H n c r hp h0 => by
 have hmc := hp.mc
 have hcn := hp.cn
 have hlom := hp.lom
 obtain ⟨a1, a2, a3, a4, a5, a6, a7, a8⟩ := zar hp
 unfold insE
 simp only
 generalize zdc w c r H n = o at a1 a2 a3 a4 a5 a6 a7 a8 ⊢
 have hg := z7a t o.2.1 o.2.2
 generalize z67 t o.2.1 o.2.2 = g at hg ⊢
 obtain ⟨b1, b2, b3, b4, b5, b6, b7⟩ := hg
 refine ⟨_, zj3 hp (q := o.1) (ks := zp8 at_ g.1 w) (n2 := g.2.2) (H2 := g.2.1) a1 a2 (by omega) (by omega) (fun j hj => (b3 j (by omega)).trans (a5 j hj)) (fun k hk => ?_) ⟨rfl, g.1, b1, b7, fun j hj => by have := b6 j hj; omega, rfl⟩⟩
 have old : ∀ k, Stand o.2.1 k -> Under lo k -> Stand g.2.1 k /\ ∀ j ∈ objsV k, (j < lo \/ m <= j) /\ j < g.2.2 /\ j ≠ o.1 /\ j ≠ c := fun k h1 h2 => ⟨Stand.on k (fun j hj => b3 j (by have := h2 j hj; omega)) h1, fun j hj => by have := h2 j hj; omega⟩
 unfold zp8 at hk
 rcases List.mem_append.1 hk with hk | hk
 ·exact old k (a8 k (List.mem_of_mem_take hk)).1 (a8 k (List.mem_of_mem_take hk)).2
 ·rcases List.mem_cons.1 hk with rfl | hk
  ·exact ⟨b4, fun j hj => by have := b5 j hj; have := b6 j hj; omega⟩
  ·exact old k (a8 k (List.mem_of_mem_drop hk)).1 (a8 k (List.mem_of_mem_drop hk)).2
end
section
open Abs Facts Tr
namespace Tr
theorem anc_wipe {id k : Idv} : ∀ u : T, (idsT u).Nodup -> ¬ u.id = id -> k ∈ idsT u -> (∀ y, z05 id u = (y, true) -> k ∉ idsT y) -> z20 k (z0i id u) = z20 k u := by
 refine z5c fun u ih hn h0 hk hy => ?_
 by_cases hid : id ∉ idsT u
 ·rw [zjs hid]
 rw [Classical.not_not] at hid
 by_cases hku : u.id = k
 ·rw [z8k hku]
  exact z8k (by rw [(z84 id u).1]; exact hku)
 ·obtain ⟨i, hi, h1, h2, h3⟩ := zal hku (z5o.2 hk)
  have hkm := z5o.1 h2
  obtain ⟨g1, g2, g3⟩ := z5z hn
  have hki := List.getElem_mem hi
  have hkeep : ¬ u.kids[i].id = id := fun e => by
   refine hy u.kids[i] ?_ hkm
   have hw : z1t id u.kids[i] = [u.kids[i]] := z4r e
   have hne : z1t id u.kids[i] ≠ [] := by rw [hw]; simp
   rw [z4d (z4x h0 hi (fun j hj h => (z5l id _).2 (g3 i j hi h (by omega) id (e ▸ z1q _))) hne) hne]
   exact z34 e
  have hyk : ∀ y, z05 id u.kids[i] = (y, true) -> k ∉ idsT y := fun y hf => hy y (by
   have hne : z1t id u.kids[i] ≠ [] := z75.1 (by rw [hf])
   rw [z4d (z4x h0 hi (fun j hj h => (z5l id _).2 (g3 i j hi h (by omega) id (z5o.1 hne))) hne) hne]
   exact hf)
  have hin := ih _ hki (g2 _ hki) hkeep hkm hyk
  have hfw := zm3 u.kids[i] (g2 _ hki) hkeep hkm hyk
  have hsp : u.kids = u.kids.take i ++ u.kids[i] :: u.kids.drop (i + 1) := by rw [<- List.drop_eq_getElem_cons hi, List.take_append_drop]
  have hwk : k ∈ idsT (z0i id u.kids[i]) := by
   have : (z05 k (z0i id u.kids[i])).2 = true := by rw [hfw]
   rw [z27, decide_eq_true_eq] at this; exact this
  rw [zfc hku hi h1 h2, z4u]
  have e : (u.kids.filter (z4g id)).map (z0i id) = ((u.kids.take i).filter (z4g id)).map (z0i id) ++ z0i id u.kids[i] :: ((u.kids.drop (i + 1)).filter (z4g id)).map (z0i id) := by
   conv => lhs; rw [hsp]
   rw [List.filter_append, List.filter_cons, if_pos (zdh hkeep), List.map_append, List.map_cons]
  rw [e, zn7 hku ?_ hwk, hin]
  intro hm
  obtain ⟨y, hym, hyk⟩ := List.mem_flatMap.1 hm
  obtain ⟨y', hy', rfl⟩ := List.mem_map.1 hym
  have hmem := (List.mem_filter.1 hy').1
  obtain ⟨j, hj, rfl⟩ := List.getElem_of_mem hmem
  rw [List.length_take] at hj
  rw [List.getElem_take] at hyk
  have := h1 j (by omega) (by omega)
  rw [z5l] at this
  exact this (zq2 id _ k hyk)
end Tr
namespace Tr
def zgh (t : T) : T := t.setKids []
def zk2 (id : Idv) (a b : T) : Prop := ∀ p ∈ z0j a, ∃ p' ∈ z0j b, p'.id = p.id /\ (p.id ≠ id -> zgh p' = zgh p) /\ ∀ y ∈ p.kids, ∃ y' ∈ p'.kids, y'.id = y.id
theorem zcq : ∀ u x : T, x ∈ z0j u -> ∀ y ∈ z0j x, y ∈ z0j u := by
 refine fun u => z5c (p := fun u => ∀ x : T, x ∈ z0j u -> ∀ y ∈ z0j x, y ∈ z0j u) (fun u ih x hx y hy => ?_) u
 rw [z1n, List.mem_cons] at hx
 rcases hx with rfl | hx
 ·exact hy
 ·obtain ⟨k, hk, hxk⟩ := List.mem_flatMap.1 hx
  exact z2g hk (ih k hk x hxk y hy)
theorem zil : ∀ t : T, (idsT t).Nodup -> ∀ p ∈ z0j t, ∀ y ∈ p.kids, (z4w y.id t).1 = p.id := by
 refine z5c fun t ih hn p hp y hy => ?_
 obtain ⟨g1, g2, g3⟩ := z5z hn
 rw [z1n, List.mem_cons] at hp
 rcases hp with rfl | hp
 ·obtain ⟨i, hi, rfl⟩ := List.getElem_of_mem hy
  rw [zgk (id := p.kids[i].id) (t := p) (i := i) (fun e => g1 _ hy (e ▸ z1q _)) hi (fun j hj h => (z5l _ _).2 (g3 i j hi h (by omega) _ (z1q _))) rfl]
 ·obtain ⟨k, hk, hpk⟩ := List.mem_flatMap.1 hp
  obtain ⟨i, hi, rfl⟩ := List.getElem_of_mem hk
  have hyi : y.id ∈ idsT t.kids[i] := List.mem_map.2 ⟨y, zcq _ p hpk y (z2g hy (z1r y)), rfl⟩
  have hne : ¬ t.kids[i].id = y.id := by
   intro e
   have hn2 := g2 _ hk
   have key : ∀ t : T, (idsT t).Nodup -> ∀ p ∈ z0j t, ∀ y ∈ p.kids, t.id ≠ y.id := by
    intro t hn p hp y hy e
    rw [z1j, List.nodup_cons] at hn
    refine hn.1 ?_
    rw [e]
    rw [z1n, List.mem_cons] at hp
    rcases hp with rfl | hp
    ·exact List.mem_flatMap.2 ⟨y, hy, z1q y⟩
    ·obtain ⟨k, hk, hpk⟩ := List.mem_flatMap.1 hp
     refine List.mem_flatMap.2 ⟨k, hk, List.mem_map.2 ⟨y, ?_, rfl⟩⟩
     exact zcq k p hpk y (z2g hy (z1r y))
   exact key _ hn2 p hpk y hy e
  rw [zok (id := y.id) (t := t) (i := i) (fun e => g1 _ hk (e ▸ hyi)) hi (fun j hj h => (z5l _ _).2 (g3 i j hi h (by omega) _ hyi)) hne (z5o.2 hyi)]
  exact ih _ hk (g2 _ hk) p hpk y hy
theorem zmg (C : Ctx) {x y : T} (h : y ∈ z0j x) : y ∈ z0j (z2f C x) := by
 induction C with
 | hole => exact h
 | node t l c r ih => exact z2g (t := z2f (.node t l c r) x) (k := z2f c x) (by show _ ∈ l ++ _ :: r; simp) ih
theorem zxn {t : T} {k : Idv} (hk : k ∈ idsT t) (h0 : ¬ t.id = k) : ∃ p ∈ z0j t, ∃ y ∈ p.kids, y.id = k := by
 obtain ⟨C, q, l, x, r, e, hx, _⟩ := zkm h0 hk
 refine ⟨q.setKids (l ++ x :: r), ?_, x, by show x ∈ l ++ x :: r; simp, hx⟩
 rw [e]
 exact zmg C (z1r _)
theorem z5v {id : Idv} {a b : T} (J : zk2 id a b) (ha : (idsT a).Nodup) (hb : (idsT b).Nodup) {k : Idv} (hk : k ∈ idsT a) :
  (z05 k b).2 = true /\ (k ≠ id -> zgh (z05 k a).1 = zgh (z05 k b).1) /\ (¬ a.id = k -> (z4w k a).1 = (z4w k b).1) := by
 obtain ⟨p, hp, hpk⟩ := List.mem_map.1 hk
 obtain ⟨p', hp', e1, e2, _⟩ := J p hp
 have h1 := z8m ha hp hpk
 have h2 := z8m hb hp' (e1.trans hpk)
 refine ⟨by rw [h2], fun hne => ?_, fun h0 => ?_⟩
 ·rw [h1, h2]; exact (e2 (by rw [hpk]; exact hne)).symm
 ·obtain ⟨q, hq, y, hy, hyk⟩ := zxn hk h0
  obtain ⟨q', hq', f1, _, f3⟩ := J q hq
  obtain ⟨y', hy', f4⟩ := f3 y hy
  have g1 := zil a ha q hq y hy
  have g2 := zil b hb q' hq' y' hy'
  rw [hyk] at g1
  rw [f4, hyk] at g2
  rw [g1, g2, f1]
def zhm : Ctx -> Ctx -> Ctx
 | .hole, D => D
 | .node t l c r, D => .node t l (zhm c D) r
theorem zgi (D : Ctx) (x : T) : ∀ C, z2f (zhm C D) x = z2f C (z2f D x)
 | .hole => rfl
 | .node t l c r => by rw [zhm, z2f, zgi D x c, z2f]
theorem zr4 (D : Ctx) : ∀ C, z79 (zhm C D) = z79 C ++ z79 D
 | .hole => by simp [zhm, z79]
 | .node t l c r => by rw [zhm, z79, z79, zr4 D c, List.cons_append, List.append_assoc]
theorem zmh (D : Ctx) : ∀ C, z3z (zhm C D) = z3z D ++ z3z C
 | .hole => by simp [zhm, z3z]
 | .node t l c r => by rw [zhm, z3z, z3z, zmh D c, List.append_assoc]
theorem zmi {id : Idv} {a b : T} (h : ∀ p ∈ z0j a, p ∈ z0j b) : zk2 id a b := fun p hp => ⟨p, h p hp, rfl, fun _ => rfl, fun y hy => ⟨y, hy, rfl⟩⟩
theorem zdx {id : Idv} {a b : T} (J : zk2 id a b) (hid : b.id = a.id) : ∀ C, zk2 id (z2f C a) (z2f C b)
 | .hole => J
 | .node t l c r => by
  have ih := zdx J hid c
  have hr : (z2f c b).id = (z2f c a).id := by
   cases c with
   | hole => exact hid
   | node t' l' c' r' => rfl
  intro p hp
  rw [z2f, z1n, List.mem_cons] at hp
  rcases hp with rfl | hp
  ·refine ⟨z2f (.node t l c r) b, z1r _, rfl, fun _ => rfl, fun y hy => ?_⟩
   have hy : y ∈ l ++ z2f c a :: r := hy
   show ∃ y' ∈ l ++ z2f c b :: r, y'.id = y.id
   rcases List.mem_append.1 hy with h | h
   ·exact ⟨y, List.mem_append_left _ h, rfl⟩
   ·rcases List.mem_cons.1 h with rfl | h
    ·exact ⟨z2f c b, by simp, hr⟩
    ·exact ⟨y, List.mem_append_right _ (List.mem_cons_of_mem _ h), rfl⟩
  ·have hp : p ∈ (l ++ z2f c a :: r).flatMap z0j := hp
   rw [List.flatMap_append, List.flatMap_cons, List.mem_append, List.mem_append] at hp
   have sub : ∀ k ∈ l ++ z2f c b :: r, ∀ y ∈ z0j k, y ∈ z0j (z2f (.node t l c r) b) := fun k hk y hy => z2g (t := z2f (.node t l c r) b) hk hy
   rcases hp with h | h | h
   ·obtain ⟨k, hk, hpk⟩ := List.mem_flatMap.1 h
    exact ⟨p, sub k (List.mem_append_left _ hk) p hpk, rfl, fun _ => rfl, fun y hy => ⟨y, hy, rfl⟩⟩
   ·obtain ⟨p', hp', e⟩ := ih p h
    exact ⟨p', sub _ (by simp) p' hp', e⟩
   ·obtain ⟨k, hk, hpk⟩ := List.mem_flatMap.1 h
    exact ⟨p, sub k (List.mem_append_right _ (List.mem_cons_of_mem _ hk)) p hpk, rfl, fun _ => rfl, fun y hy => ⟨y, hy, rfl⟩⟩
theorem zxo {id : Idv} (q x : T) (l r : List T) : zk2 id (q.setKids (l ++ r)) (q.setKids (l ++ x :: r)) := by
 intro p hp
 have sub : ∀ k ∈ l ++ x :: r, ∀ y ∈ z0j k, y ∈ z0j (q.setKids (l ++ x :: r)) := fun k hk y hy => z2g (t := q.setKids (l ++ x :: r)) hk hy
 have mem : ∀ k ∈ l ++ r, k ∈ l ++ x :: r := fun k hk => by
  rcases List.mem_append.1 hk with h | h
  ·exact List.mem_append_left _ h
  ·exact List.mem_append_right _ (List.mem_cons_of_mem _ h)
 rw [z1n, List.mem_cons] at hp
 rcases hp with rfl | hp
 ·exact ⟨_, z1r _, rfl, fun _ => rfl, fun y hy => ⟨y, mem y hy, rfl⟩⟩
 ·obtain ⟨k, hk, hpk⟩ := List.mem_flatMap.1 hp
  exact ⟨p, sub k (mem k hk) p hpk, rfl, fun _ => rfl, fun y hy => ⟨y, hy, rfl⟩⟩
theorem zxp {q q' : T} (h1 : q'.id = q.id) (h2 : q'.kids = q.kids) : zk2 q.id q q' := by
 intro p hp
 rw [z1n, List.mem_cons] at hp
 rcases hp with rfl | hp
 ·exact ⟨q', z1r _, h1, fun h => (h rfl).elim, fun y hy => ⟨y, by rw [h2]; exact hy, rfl⟩⟩
 ·refine ⟨p, ?_, rfl, fun _ => rfl, fun y hy => ⟨y, hy, rfl⟩⟩
  rw [z1n, h2]; exact List.mem_cons_of_mem _ hp
theorem ztc (id : Idv) : ∀ u : T, ∀ p ∈ z0j (z0i id u), ∃ q ∈ z0j u, p = z0i id q := by
 refine z5c fun u ih p hp => ?_
 by_cases hpu : p = z0i id u
 ·exact ⟨u, z1r u, hpu⟩
 ·have hp2 : p ∈ ((u.kids.filter (z4g id)).map (z0i id)).flatMap z0j := by
   have e : z0j (z0i id u) = z0i id u :: ((u.kids.filter (z4g id)).map (z0i id)).flatMap z0j := by
    conv => lhs; rw [z1n]
    rw [show (z0i id u).kids = (u.kids.filter (z4g id)).map (z0i id) from by rw [z4u]; rfl]
   rw [e, List.mem_cons] at hp
   exact hp.resolve_left hpu
  obtain ⟨k, hk, hpk⟩ := List.mem_flatMap.1 hp2
  obtain ⟨k', hk', rfl⟩ := List.mem_map.1 hk
  have hm := (List.mem_filter.1 hk').1
  obtain ⟨q, hq, e⟩ := ih k' hm p hpk
  exact ⟨q, z2g hm hq, e⟩
theorem zim (id : Idv) (j : Idv) (u : T) : zk2 id (z0i j u) u := by
 intro p hp
 obtain ⟨q, hq, rfl⟩ := ztc j u p hp
 refine ⟨q, hq, (z84 j q).1.symm, fun _ => ?_, fun y hy => ?_⟩
 ·unfold zgh
  obtain ⟨h1, h2, h3, h4, h5⟩ := z84 j q
  unfold T.setKids
  rw [h1, h2, h3, h4, h5]
 ·rw [z4u] at hy
  obtain ⟨y', hy', rfl⟩ := List.mem_map.1 hy
  exact ⟨y', (List.mem_filter.1 hy').1, (z84 j y').1.symm⟩
theorem zdy {C : Ctx} {q q' : T} (hs : standsT (z2f C q) = true) (h1 : q'.id = q.id) (h2 : q'.kind = q.kind) (h3 : q'.kids = q.kids) (ha : z3d q' = true) (hC : ctxR C (z6p q) -> ctxR C (z6p q')) : standsT (z2f C q') = true := by
 rw [z1v] at hs ⊢
 obtain ⟨u1, u2, u3, u4, u5, u6⟩ := hs
 rw [z3c] at u1
 obtain ⟨hr, hp⟩ := z9s C (x := q') (y := q) h1 h2
 have hi : idsT q' = idsT q := by rw [z1j, z1j, h1, h3]
 have hd : depT q' = depT q := by rw [z5w, z5w q, h3]
 have hc : cntT q' = cntT q := by rw [<- z2n, <- z2n, hi]
 refine ⟨?_, ?_, ?_, ?_, by rw [hr, hp]; exact u5, ?_⟩
 ·rw [z3c]
  refine ⟨hC u1.1, ?_⟩
  have := u1.2
  rw [z4n] at this ⊢
  rw [h3, h2]
  simp only [Bool.and_eq_true] at this ⊢
  exact ⟨ha, this.2⟩
 ·rw [z8p] at u2 ⊢; omega
 ·rw [z62] at u3 ⊢; omega
 ·rw [z2m, hi, <- z2m]; exact u4
 ·rw [z7t, hi, <- z7t]; exact u6
def LRP (u v : T) (id : Idv) (gone : List Idv) : Prop := standsT v = true /\ cntT v + gone.length = cntT u /\ gone.Nodup /\
 ∀ k ∈ idsT u, (z05 k v).2 = (!decide (k ∈ gone)) /\ ((z05 k v).2 = true -> k ≠ id -> zgh (z05 k u).1 = zgh (z05 k v).1 /\ (z4w k u).1 = (z4w k v).1)
theorem ztd {u : T} {id : Idv} (h : z4l u id = 0) : LRP u (z0i id u) id (idsT (z05 id u).1) := by
 obtain ⟨h1, h2, h3⟩ := zg8 h
 obtain ⟨under, n, x, d1, d2, d3, d4, d5, d6, d7, d8, d9, d10, d11, d12⟩ := za2 h1 h3 h2
 rw [d2]
 refine ⟨d4, by rw [z2n]; exact d11, z17 d5, fun k hk => ?_⟩
 by_cases hx : k ∈ idsT x
 ·have : k ∉ idsT (z0i id u) := d9 k hx
  rw [z27, decide_eq_false this, decide_eq_true hx]
  exact ⟨rfl, fun h => by cases h⟩
 ·have hr : k ∈ idsT (z0i id u) := (d12 k hk).resolve_left hx
  rw [z27, decide_eq_true hr, decide_eq_false hx]
  refine ⟨rfl, fun _ hne => ?_⟩
  obtain ⟨_, f2, f3⟩ := z5v (zim id id u) (z17 d4) (z17 h1) hr
  refine ⟨(f2 hne).symm, ?_⟩
  by_cases hu : u.id = k
  ·rw [z7i hu, z7i (by rw [(z84 id u).1]; exact hu)]
  ·exact (f3 (by rw [(z84 id u).1]; exact hu)).symm
theorem lrp_move {u : T} {id parent : Idv} {m : Nat} (h : z33 u id parent m = 0) : LRP u (z0p parent (z40 m (z05 id u).1) (z0i id u)) id [] := by
 obtain ⟨h1, h2, h3, h4, h5, hw⟩ := za3 h
 obtain ⟨under, n, x, d1, d2, d3, d4, d5, d6, d7, d8, d9, d10, d11, d12⟩ := za2 h1 h4 h2
 rw [d2] at hw h5 ⊢
 simp only at hw h5 ⊢
 obtain ⟨C, q, l, r, e1, e2, e3, e4, f1, f2, f3, f4, f5, _, f7, f8⟩ := z7g hw
 refine ⟨f1, by simp; omega, List.nodup_nil, fun k hk => ?_⟩
 have hnv := z17 f1
 have hxu : x ∈ z0j u := by have := z7o (id := id) (u := u) (by rw [d2]); rw [d2] at this; exact this
 have hxv : x ∈ z0j (z0p parent (z40 m x) (z0i id u)) := by have := z7o (id := x.id) (u := z0p parent (z40 m x) (z0i id u)) (by rw [f3]); rw [f3] at this; exact this
 by_cases hx : k ∈ idsT x
 ·obtain ⟨a1, a2, a3⟩ := z5v (id := id) (zmi fun p hp => zcq u x hxu p hp) (z17 d5) (z17 h1) hx
  obtain ⟨b1, b2, b3⟩ := z5v (id := id) (zmi fun p hp => zcq _ x hxv p hp) (z17 d5) hnv hx
  refine ⟨by rw [b1]; rfl, fun _ hne => ⟨(a2 hne).symm.trans (b2 hne), ?_⟩⟩
  have hr : ¬ x.id = k := fun e => hne (e.symm.trans d3)
  exact (a3 hr).symm.trans (b3 hr)
 ·have hr : k ∈ idsT (z0i id u) := (d12 k hk).resolve_left hx
  obtain ⟨a1, a2, a3⟩ := z5v (zim id id u) (z17 d4) (z17 h1) hr
  have J : zk2 id (z0i id u) (z0p parent (z40 m x) (z0i id u)) := by
   have := zdx (id := id) (zxo q x l r) rfl C
   rw [<- e1, <- e4] at this
   exact this
  obtain ⟨b1, b2, b3⟩ := z5v J (z17 d4) hnv hr
  refine ⟨by rw [b1]; rfl, fun _ hne => ⟨(a2 hne).symm.trans (b2 hne), ?_⟩⟩
  by_cases hu : u.id = k
  ·have h0 : (z0i id u).id = k := by rw [(z84 id u).1]; exact hu
   have hv : (z0p parent (z40 m x) (z0i id u)).id = (z0i id u).id := by
    rw [e4]; conv => rhs; rw [e1]
    exact (z9s C (x := q.setKids (l ++ x :: r)) (y := q.setKids (l ++ r)) rfl rfl).1
   rw [z7i hu, z7i (hv.trans h0)]
  ·have h0 : ¬ (z0i id u).id = k := by rw [(z84 id u).1]; exact hu
   exact (a3 h0).symm.trans (b3 h0)
theorem zxq {u : T} {id : Idv} {f : T -> T} (h1 : standsT u = true) (hm : id ∈ idsT u) (hf : ∀ q : T, (f q).id = q.id /\ (f q).kids = q.kids) (hs : standsT (z0p id f u) = true) : LRP u (z0p id f u) id [] := by
 obtain ⟨C, e, hq, hpre, _⟩ := focus id u hm
 generalize (z05 id u).1 = q at e hq
 have hpost : id ∉ z3z C := (z2z (x := q) (by rw [<- e]; exact z17 h1) (hq ▸ z1q q)).2
 have e4 : z0p id f u = z2f C (f q) := by rw [e, z57 f hq C hpre hpost]
 have hi : idsT (f q) = idsT q := by rw [z1j, z1j q, (hf q).1, (hf q).2]
 have hids : idsT (z0p id f u) = idsT u := by rw [e4, z2m, hi, <- z2m, <- e]
 refine ⟨hs, by rw [<- z2n, <- z2n, hids]; rfl, List.nodup_nil, fun k hk => ?_⟩
 have J : zk2 id u (z0p id f u) := by
  have := zdx (zxp (hf q).1 (hf q).2) (hf q).1 C
  rw [hq, <- e, <- e4] at this
  exact this
 obtain ⟨b1, b2, b3⟩ := z5v J (z17 h1) (z17 hs) hk
 refine ⟨by rw [b1]; rfl, fun _ hne => ⟨b2 hne, ?_⟩⟩
 by_cases hu : u.id = k
 ·have hv : (z0p id f u).id = u.id := by
   rw [e4]; conv => rhs; rw [e]
   cases C with
   | hole => exact (hf q).1
   | node t l c r => rfl
  rw [z7i hu, z7i (hv.trans hu)]
 ·exact b3 hu
theorem zxr {u : T} {id : Idv} {l : List Wd} (h : z1k u id l = 0) : LRP u (z0p id (fun q => q.setWords l) u) id [] := by
 obtain ⟨h1, hm, h3, h4, h5⟩ := z8r h
 refine zxq h1 hm (fun q => ⟨rfl, rfl⟩) ?_
 obtain ⟨C, e, hq, hpre, _⟩ := focus id u hm
 generalize (z05 id u).1 = q at e hq h4
 have hpost : id ∉ z3z C := (z2z (x := q) (by rw [<- e]; exact z17 h1) (hq ▸ z1q q)).2
 rw [e, z57 (fun q => q.setWords l) hq C hpre hpost]
 rw [e] at h1
 refine zdy h1 rfl rfl rfl ?_ (fun h => h)
 have hr := ((z1v _).1 h1).1
 rw [z3c] at hr
 have ha := (z9r hr.2).1
 unfold z3d at ha ⊢
 simp only [Bool.and_eq_true, decide_eq_true_eq] at ha ⊢
 obtain ⟨a1, a2, a3, a4, a5⟩ := ha
 refine ⟨a1, a2, a3, ?_, ?_⟩
 ·show zij l = true
  unfold zij
  rw [decide_eq_true h5, Bool.true_and, List.all_eq_true]
  intro w hw
  unfold zu6 at h3
  have := List.any_eq_false.1 h3 w hw
  simpa using this
 ·rw [if_neg h4] at a5
  rw [if_neg (show ¬ (q.setWords l).kind = 0 from h4)]; exact a5
theorem zxs {u : T} {id : Idv} {name : ByteArray} (h : z9f u id name = 0) : standsT u = true /\ z4f name = true /\ id ∈ idsT u /\ ¬ (z05 id u).1.kind = 0 /\ z61 u id name = false := by
 unfold z9f at h
 split at h
 ·cases h
 rename_i h1
 split at h
 ·cases h
 rename_i h2
 split at h
 ·cases h
 rename_i h3
 split at h
 ·cases h
 rename_i h4
 rw [not_or, Bool.not_eq_false, Bool.not_eq_false] at h1
 rw [Bool.not_eq_false, z27, decide_eq_true_eq] at h2
 exact ⟨h1.1, h1.2, h2, h3, by simpa using h4⟩
theorem zxt {u : T} {id : Idv} {name : ByteArray} (h : z9f u id name = 0) : LRP u (z0p id (fun q => q.setLabel name) u) id [] := by
 obtain ⟨h1, h2, hm, h4, h5⟩ := zxs h
 refine zxq h1 hm (fun q => ⟨rfl, rfl⟩) ?_
 have alone : ∀ q : T, z3d q = true -> ¬ q.kind = 0 -> z3d (q.setLabel name) = true := fun q ha hk => by
  unfold z3d at ha ⊢
  simp only [Bool.and_eq_true, decide_eq_true_eq] at ha ⊢
  obtain ⟨a1, a2, a3, a4, _⟩ := ha
  refine ⟨a1, a2, a3, a4, ?_⟩
  rw [if_neg (show ¬ (q.setLabel name).kind = 0 from hk)]; exact h2
 by_cases h0 : u.id = id
 ·rw [z34 h0] at h4
  rw [z4b, if_pos h0]
  refine zdy (C := .hole) h1 rfl rfl rfl (alone u (z9r ((z1v u).1 h1).1).1 h4) (fun _ => trivial)
 ·obtain ⟨C, q, l, x, r, e, hx, hq, n1, n2, hf, hp⟩ := zkm h0 hm
  have hnd := z17 h1
  have hnd' := hnd
  rw [e] at hnd
  have hqs : q.id ∈ idsT (q.setKids (l ++ x :: r)) := by rw [z2l]; exact List.mem_cons_self
  obtain ⟨m1, m2⟩ := z2z hnd hqs
  have hxm : id ∈ idsT (q.setKids (l ++ x :: r)) := by rw [z2l]; exact List.mem_cons_of_mem _ (zdb.2 (.inr (.inl (hx ▸ z1q x))))
  obtain ⟨k1, k2⟩ := z2z hnd hxm
  have ns := (zbu (z8c hnd)).1 id (hx ▸ z1q x)
  have hfq : z05 q.id u = (q.setKids (l ++ x :: r), true) := by rw [e, z9q hqs C m1]; exact z34 rfl
  -- the edit at x, seen from above it
  have he : z0p id (fun q => q.setLabel name) u = z2f C (q.setKids (l ++ x.setLabel name :: r)) := by
   have hC2 : u = z2f (zhm C (.node q l .hole r)) x := by rw [zgi]; exact e
   rw [hC2, z57 (fun q => q.setLabel name) hx _ ?_ ?_, zgi]; rfl
   ·rw [zr4, List.mem_append]
    rintro (h | h)
    ·exact k1 h
    ·simp only [z79, List.append_nil, List.mem_cons] at h
     rcases h with h | h
     ·exact hq h.symm
     ·exact n2 h
   ·rw [zmh, List.mem_append]
    rintro (h | h)
    ·simp only [z3z, List.nil_append] at h
     exact ns.2.2 h
    ·exact k2 h
  rw [he]
  rw [hf] at h4
  have hb : z61 u id name = false := h5
  unfold z61 at hb
  rw [hp, hf, hfq] at hb
  simp only [Bool.true_and, Bool.or_eq_false_iff, decide_eq_false_iff_not] at hb
  obtain ⟨_, hb⟩ := hb
  have htk : (name, x.kind) = (name, x.kind) := rfl
  have hs := h1
  rw [e, z1v] at hs
  obtain ⟨u1, u2, u3, u4, u5, u6⟩ := hs
  have hi : idsT (q.setKids (l ++ x.setLabel name :: r)) = idsT (q.setKids (l ++ x :: r)) := by
   rw [z2l, z2l, List.flatMap_append, List.flatMap_append, List.flatMap_cons, List.flatMap_cons, z1j (x.setLabel name), z1j x]; rfl
  have hdx : depT (x.setLabel name) = depT x := by rw [z5w, z5w x]; rfl
  obtain ⟨hr, hk⟩ := z9s C (x := q.setKids (l ++ x.setLabel name :: r)) (y := q.setKids (l ++ x :: r)) rfl rfl
  rw [z1v]
  refine ⟨?_, ?_, ?_, ?_, by rw [hr, hk]; exact u5, ?_⟩
  ·rw [z3c, zbr] at u1 ⊢
   obtain ⟨uC, ⟨a1, a2, a3, a4, a5⟩, uX⟩ := u1
   refine ⟨uC, ⟨a1, a2, a3, a4, ?_⟩, ?_⟩
   ·intro hmem
    obtain ⟨y, hy, hk⟩ := List.mem_map.1 hmem
    have hy2 : y ∈ l ++ x :: r := by
     rcases List.mem_append.1 hy with h | h
     ·exact List.mem_append_left _ h
     ·exact List.mem_append_right _ (List.mem_cons_of_mem _ h)
    have := List.any_eq_false.1 hb y hy2
    simp only [Bool.and_eq_true, decide_eq_true_eq, not_and] at this
    exact this (congrArg Prod.fst hk) (congrArg Prod.snd hk)
   ·have := uX
    rw [z4n] at this ⊢
    simp only [Bool.and_eq_true] at this ⊢
    exact ⟨alone x this.1 h4, this.2⟩
  ·rw [z8p, znd] at u2 ⊢; omega
  ·have hc : cntT (q.setKids (l ++ x.setLabel name :: r)) = cntT (q.setKids (l ++ x :: r)) := by rw [<- z2n, <- z2n, hi]
   rw [z62] at u3 ⊢; omega
  ·rw [z2m, hi, <- z2m]; exact u4
  ·rw [z7t, hi, <- z7t]; exact u6
theorem move_nn {u : T} {id parent : Idv} {i : Int} (h : z33 u id parent i = 0) : 0 <= i := by
 obtain ⟨_, _, _, _, _, hw⟩ := za3 h
 unfold z25 at hw
 split at hw
 ·cases hw
 split at hw
 ·cases hw
 split at hw
 ·cases hw
 split at hw
 ·cases hw
 omega
theorem zxu {u : T} {id parent : Idv} {i : Int} (h : z33 u id parent i = 0) : LRP u (z0p parent (z40 i.toNat (z05 id u).1) (z0i id u)) id [] := by
 have h0 := move_nn h
 obtain ⟨m, rfl⟩ := Int.eq_ofNat_of_zero_le h0
 exact lrp_move h
end Tr
namespace Tr
theorem Upd.congr {lo : Nat} {m1 m2 : List Idv} {v v' : V} (h : Upd lo m1 v v') (hm : ∀ i, i ∈ m1 ↔ i ∈ m2) : Upd lo m2 v v' := fun a ha => by
 rcases h a ha with ⟨h1, h2, h3⟩ | ⟨h1, h2⟩
 ·exact .inl ⟨h1, h2, fun h => h3 ((hm _).2 h)⟩
 ·exact .inr ⟨h1, h2.imp (hm _).1 _root_.id⟩
theorem zd1 {v : V} {id : Idv} (hm : id ∈ idsT (treeV v)) (i : Idv) : i ∈ zbi id v ↔ i ∈ id :: z20 id (treeV v) := by
 have hne := z5o.2 hm
 have hl := zkc id (treeV v) hne
 unfold zbi z20
 have e : z1t id (treeV v) = (z1t id (treeV v)).dropLast ++ [(z1t id (treeV v))[(z1t id (treeV v)).length - 1]'(by have := List.length_pos_iff.2 hne; omega)] := by
  conv => lhs; rw [<- List.dropLast_concat_getLast hne]
  rw [List.getLast_eq_getElem]
 conv => lhs; rw [e]
 rw [List.map_append, List.mem_append, List.mem_cons, List.mem_reverse]
 simp only [List.map_cons, List.map_nil, List.mem_singleton, hl]
 exact or_comm
theorem z4s {n : Nat} {v : V} (hu : Under n v) : ∀ a ∈ nodesV v, a.num < n := fun a ha => z3e hu ha _ (z4a a)
theorem zou {m n : Nat} {id : Idv} {f : T -> T} (hf : ∀ q ks, f (T.setKids q ks) = (f q).setKids ks) (hfi : ∀ q : T, (f q).id = q.id) {v v' : V} (hn : (idsT (treeV v)).Nodup) (hu : Under n v) (hnm : n <= m) (h : Chg m id (fun w w' => w'.own = f w.own /\ w'.kids = w.kids) v v') :
  treeV v' = z0p id f (treeV v) /\ Upd n (id :: z20 id (treeV v)) v v' /\ n <= v'.num := by
 have hm := h.hit
 refine ⟨zf9 h hn fun w _ w' _ ⟨h1, h2⟩ => ?_, Upd.congr (m1 := zbi id v) (fun a ha => ?_) fun i => zd1 hm i, Nat.le_trans hnm h.root.1⟩
 ·rw [z2x w', z2x w, h1, h2, hf]
 ·rcases zcj (New := fun _ => False) h hn (fun a ha => Nat.lt_of_lt_of_le (z4s hu a ha) hnm) (fun w _ w' _ ⟨_, h2⟩ c hc a ha => .inl ⟨c, h2 ▸ hc, ha⟩) a ha with ⟨h1, h2⟩ | ⟨h1, h2, h3⟩ | h
  ·exact .inr ⟨by omega, .inl h2⟩
  ·exact .inl ⟨z4s hu a h2, h2, h3⟩
  ·exact h.elim
theorem upd_ins {m n lo at_ : Nat} {x : T} {id : Idv} {v v' : V} (hw : z25 (treeV v) id at_ x = 0) (hn : (idsT (treeV v)).Nodup) (hu : Under n v) (hnm : n <= m) (hnl : n <= lo)
  (h : Chg m id (fun w w' => w'.own = w.own /\ ∃ g, treeV g = x /\ (objsV g).Nodup /\ (∀ j ∈ objsV g, lo <= j) /\ w'.kids = w.kids.take at_ ++ g :: w.kids.drop at_) v v') :
  treeV v' = z0p id (z40 at_ x) (treeV v) /\ Upd n (id :: z20 id (treeV v)) v v' /\ n <= v'.num := by
 have hm := h.hit
 obtain ⟨_, _, _, _, _, _, _, _, _, _, _, _, _, _, hdis, _⟩ := z7g hw
 refine ⟨zf9 h hn fun w _ w' _ ⟨h1, g, hg, _, _, h2⟩ => ?_, Upd.congr (m1 := zbi id v) (fun a ha => ?_) fun i => zd1 hm i, Nat.le_trans hnm h.root.1⟩
 ·rw [z2x w', z2x w, h1, h2]
  unfold z40
  show w.own.setKids _ = w.own.setKids (List.take at_ (w.kids.map treeV) ++ x :: List.drop at_ (w.kids.map treeV))
  rw [List.map_append, List.map_cons, hg, List.map_take, List.map_drop]
 ·have hE : ∀ w ∈ nodesV v, ∀ w' : V, w.own.id = id -> (w'.own = w.own /\ ∃ g, treeV g = x /\ (objsV g).Nodup /\ (∀ j ∈ objsV g, lo <= j) /\ w'.kids = w.kids.take at_ ++ g :: w.kids.drop at_) -> ∀ c ∈ w'.kids, ∀ a ∈ nodesV c, (∃ d ∈ w.kids, a ∈ nodesV d) \/ (n <= a.num /\ a.own.id ∈ idsT x) := by
   intro w _ w' _ ⟨_, g, hg, _, hgo, h2⟩ c hc a ha
   rw [h2, List.mem_append, List.mem_cons] at hc
   rcases hc with hc | rfl | hc
   ·exact .inl ⟨c, List.mem_of_mem_take hc, ha⟩
   ·refine .inr ⟨Nat.le_trans hnl (hgo _ (zky c a ha _ (z4a a))), ?_⟩
    rw [<- hg, z49]
    exact List.mem_map.2 ⟨a, ha, rfl⟩
   ·exact .inl ⟨c, List.mem_of_mem_drop hc, ha⟩
  rcases zcj (New := fun a => n <= a.num /\ a.own.id ∈ idsT x) h hn (fun a ha => Nat.lt_of_lt_of_le (z4s hu a ha) hnm) hE a ha with ⟨h1, h2⟩ | ⟨h1, h2, h3⟩ | ⟨h1, h2⟩
  ·exact .inr ⟨by omega, .inl h2⟩
  ·exact .inl ⟨z4s hu a h2, h2, h3⟩
  ·exact .inr ⟨h1, .inr (hdis _ h2)⟩
theorem zd2 {u : T} {id : Idv} (hn : (idsT u).Nodup) (h0 : ¬ u.id = id) (hm : id ∈ idsT u) : ∃ under : Idv, (z4w id u).1 = under /\ under ∈ idsT u /\ z20 id u = under :: z20 under u /\ under ∉ idsT (z05 id u).1 /\ (∃ q ∈ z0j u, q.id = under /\ ∃ k ∈ q.kids, k.id = id) /\
  z0p under (fun q => q.setKids (q.kids.filter fun k => !decide (k.id = id))) u = z0i id u := by
 obtain ⟨C, q, l, x, r, e, hx, hq, n1, n2, hf, hp⟩ := zkm h0 hm
 subst e
 have hxm : id ∈ idsT (q.setKids (l ++ x :: r)) := by rw [z2l]; exact List.mem_cons_of_mem _ (zdb.2 (.inr (.inl (hx ▸ z1q x))))
 obtain ⟨k1, k2⟩ := z2z hn hxm
 have ns := (zbu (z8c hn)).1 id (hx ▸ z1q x)
 have hqs : q.id ∈ idsT (q.setKids (l ++ x :: r)) := by rw [z2l]; exact List.mem_cons_self
 obtain ⟨m1, m2⟩ := z2z hn hqs
 refine ⟨q.id, by rw [hp], z8q C hqs, ?_, ?_, ⟨q.setKids (l ++ x :: r), ?_, rfl, x, by show x ∈ l ++ x :: r; simp, hx⟩, ?_⟩
 ·have e0 : z20 q.id (q.setKids (l ++ x :: r)) = [] := z8k rfl
  rw [zf2 hxm C k1, zf2 hqs C m1, e0, zn7 hq n2 (hx ▸ z1q x), z8k hx]
  rfl
 ·rw [hf]
  have hnd := z8c hn
  rw [z2l, List.nodup_cons, List.flatMap_append, List.flatMap_cons, List.mem_append, List.mem_append] at hnd
  exact fun h => hnd.1 (.inr (.inl h))
 ·exact zmg C (z1r _)
 ·have e1 := z57 (id := q.id) (fun q => q.setKids (q.kids.filter fun k => !decide (k.id = id))) (q := q.setKids (l ++ x :: r)) rfl C m1 m2
  rw [e1, z9u hq hx n2 ns.2.2 C k1 k2]
  congr 1
  show q.setKids ((l ++ x :: r).filter _) = _
  have hkl : ∀ k ∈ l, (!decide (k.id = id)) = true := fun k hk => by
   simp only [Bool.not_eq_true', decide_eq_false_iff_not]
   exact fun e => n2 (List.mem_flatMap.2 ⟨k, hk, e ▸ z1q k⟩)
  have hkr : ∀ k ∈ r, (!decide (k.id = id)) = true := fun k hk => by
   simp only [Bool.not_eq_true', decide_eq_false_iff_not]
   exact fun e => ns.2.2 (List.mem_flatMap.2 ⟨k, hk, e ▸ z1q k⟩)
  rw [List.filter_append, List.filter_cons, if_neg (by simp [hx]), List.filter_eq_self.2 hkl, List.filter_eq_self.2 hkr]
theorem under_of {w : V} {i : Idv} : treeV (V.mk w.num w.row w.own (w.kids.filter fun k => !decide (k.own.id = i))) = (treeV w).setKids ((treeV w).kids.filter fun k => !decide (k.id = i)) := by
 rw [z2x, z2x w]
 show w.own.setKids ((w.kids.filter fun k => !decide (k.own.id = i)).map treeV) = w.own.setKids ((w.kids.map treeV).filter fun k => !decide (k.id = i))
 rw [List.filter_map]
 congr 2
 refine List.filter_congr fun k _ => ?_
 simp only [Function.comp, z2s]
theorem zyj {m n : Nat} {id under : Idv} {v v' : V} (hn : (idsT (treeV v)).Nodup) (hu : Under n v) (hnm : n <= m) (he : z0p under (fun q => q.setKids (q.kids.filter fun k => !decide (k.id = id))) (treeV v) = z0i id (treeV v))
  (h : Chg m under (fun w w' => w'.own = w.own /\ w'.kids = w.kids.filter fun k => !decide (k.own.id = id)) v v') :
  treeV v' = z0i id (treeV v) /\ Upd n (under :: z20 under (treeV v)) v v' /\ n <= v'.num := by
 have hm := h.hit
 refine ⟨?_, Upd.congr (m1 := zbi under v) (fun a ha => ?_) fun i => zd1 hm i, Nat.le_trans hnm h.root.1⟩
 ·rw [<- he]
  refine zf9 h hn fun w _ w' _ ⟨h1, h2⟩ => ?_
  rw [<- under_of, z2x w', z2x (V.mk _ _ _ _), h1, h2]
  rfl
 ·rcases zcj (New := fun _ => False) h hn (fun a ha => Nat.lt_of_lt_of_le (z4s hu a ha) hnm) (fun w _ w' _ ⟨_, h2⟩ c hc a ha => .inl ⟨c, (List.mem_filter.1 (h2 ▸ hc)).1, ha⟩) a ha with ⟨h1, h2⟩ | ⟨h1, h2, h3⟩ | h
  ·exact .inr ⟨by omega, .inl h2⟩
  ·exact .inl ⟨z4s hu a h2, h2, h3⟩
  ·exact h.elim
theorem ziw : ∀ t : T, ∀ y ∈ z0j t, ∀ z ∈ z0j y, z ∈ z0j t := by
 refine z5c fun t ih y hy z hz => ?_
 rw [z1n, List.mem_cons] at hy
 rcases hy with rfl | hy
 ·exact hz
 ·obtain ⟨k, hk, hy⟩ := List.mem_flatMap.1 hy
  exact z2g hk (ih k hk y hy z hz)
theorem ids_subT (t y : T) (hy : y ∈ z0j t) (i : Idv) (hi : i ∈ idsT y) : i ∈ idsT t := by
 obtain ⟨z, hz, rfl⟩ := List.mem_map.1 hi
 exact List.mem_map.2 ⟨z, ziw t y hy z hz, rfl⟩
theorem zyk {k : Idv} : ∀ u : T, ∀ y ∈ z1t k u, k ∈ idsT y := by
 refine z5c fun u ih y hy => ?_
 have hne : z1t k u ≠ [] := List.ne_nil_of_mem hy
 by_cases h0 : u.id = k
 ·rw [z4r h0, List.mem_singleton] at hy
  subst hy
  rw [<- h0]; exact z1q _
 ·obtain ⟨i, hi, h1, h2, h3⟩ := zal h0 hne
  rw [h3, List.mem_cons] at hy
  rcases hy with rfl | hy
  ·exact z5o.1 hne
  ·exact ih _ (List.getElem_mem hi) y hy
theorem zyl {u : T} {id k : Idv} (hn : (idsT u).Nodup) (hk : k ∈ idsT u) (hid : id ∈ idsT u) (hx : k ∉ idsT (z05 id u).1) : ∀ i ∈ k :: z20 k u, i ∉ idsT (z05 id u).1 := by
 intro i hi hm
 have hf2 : (z05 id u).2 = true := by rw [z27, decide_eq_true hid]
 have hiu : i ∈ idsT u := zq3 i hm hf2
 -- k is below i
 obtain ⟨y, hy, e⟩ : ∃ y ∈ z1t k u, y.id = i := by
  have hne := z5o.2 hk
  rcases List.mem_cons.1 hi with rfl | hi
  ·exact ⟨_, List.getElem_mem _, zkc i u hne⟩
  ·unfold z20 at hi
   rw [List.mem_reverse] at hi
   obtain ⟨y, hy, e⟩ := List.mem_map.1 hi
   exact ⟨y, (List.dropLast_sublist _).subset hy, e⟩
 have hyk := zyk u y hy
 -- y is the node of i, that lies below x
 obtain ⟨z, hz, ez⟩ := List.mem_map.1 hm
 have hyu := zdr k u y hy
 have hzu : z ∈ z0j u := ziw u _ (z7o hf2) z hz
 have hyz : y = z := z7p (f := T.id) hn y hyu z hzu (e.trans ez.symm)
 subst hyz
 exact hx (ids_subT _ y hz k hyk)
theorem zov : ∀ v : V, ∀ x ∈ nodesV v, ∀ a ∈ nodesV x, a ∈ nodesV v := by
 refine zdg fun v ih x hx a ha => ?_
 rw [z3s, List.mem_cons] at hx
 rcases hx with rfl | hx
 ·exact ha
 ·obtain ⟨k, hk, hx⟩ := List.mem_flatMap.1 hx
  exact z2r hk (ih k hk x hx a ha)
theorem upd_mov {m n m2 n2 at_ : Nat} {id under parent : Idv} {v r v' x : V} (h1 : standsT (treeV v) = true) (h0 : ¬ (treeV v).id = id) (hid : id ∈ idsT (treeV v)) (hp : parent ∈ idsT (treeV v)) (hpx : parent ∉ idsT (z05 id (treeV v)).1)
  (hun : z20 id (treeV v) = under :: z20 under (treeV v)) (hum : under ∈ idsT (treeV v)) (hux : under ∉ idsT (z05 id (treeV v)).1)
  (hx : treeV x = (z05 id (treeV v)).1) (hxv : x ∈ nodesV v) (hu : Under n v) (hnm : n <= m) (ho : treeV r = z0i id (treeV v) /\ Upd n (under :: z20 under (treeV v)) v r /\ n <= r.num) (hnr : (idsT (treeV r)).Nodup)
  (hur : Under n2 r) (hn2 : n <= n2) (hnm2 : n2 <= m2) (h : Chg m2 parent (fun w w' => w'.own = w.own /\ w'.kids = w.kids.take at_ ++ x :: w.kids.drop at_) r v') :
  treeV v' = z0p parent (z40 at_ (z05 id (treeV v)).1) (z0i id (treeV v)) /\ Upd n (z20 id (treeV v) ++ parent :: z20 parent (treeV v)) v v' /\ n <= v'.num := by
 have hn := z17 h1
 obtain ⟨o1, o2, o3⟩ := ho
 have hm := h.hit
 have hanc : z20 parent (treeV r) = z20 parent (treeV v) := by
  rw [o1]
  exact anc_wipe (treeV v) hn h0 hp fun y hy => by rw [hy] at hpx; exact hpx
 refine ⟨?_, fun a ha => ?_, Nat.le_trans (Nat.le_trans hn2 hnm2) h.root.1⟩
 ·rw [<- o1]
  refine zf9 h hnr fun w _ w' _ ⟨g1, g2⟩ => ?_
  rw [z2x w', z2x w, g1, g2]
  unfold z40
  show w.own.setKids _ = w.own.setKids (List.take at_ (w.kids.map treeV) ++ (z05 id (treeV v)).1 :: List.drop at_ (w.kids.map treeV))
  rw [List.map_append, List.map_cons, hx, List.map_take, List.map_drop]
 ·have hxi : ∀ a ∈ nodesV x, a.own.id ∈ idsT (z05 id (treeV v)).1 := fun a ha => by
   rw [<- hx, z49]; exact List.mem_map.2 ⟨a, ha, rfl⟩
  have hE : ∀ w ∈ nodesV r, ∀ w' : V, w.own.id = parent -> (w'.own = w.own /\ w'.kids = w.kids.take at_ ++ x :: w.kids.drop at_) -> ∀ c ∈ w'.kids, ∀ a ∈ nodesV c, (∃ d ∈ w.kids, a ∈ nodesV d) \/ a ∈ nodesV x := by
   intro w _ w' _ ⟨_, g2⟩ c hc a ha
   rw [g2, List.mem_append, List.mem_cons] at hc
   rcases hc with hc | rfl | hc
   ·exact .inl ⟨c, List.mem_of_mem_take hc, ha⟩
   ·exact .inr ha
   ·exact .inl ⟨c, List.mem_of_mem_drop hc, ha⟩
  have hmem : ∀ i, i ∈ z20 id (treeV v) ++ parent :: z20 parent (treeV v) ↔ i ∈ under :: z20 under (treeV v) \/ i ∈ parent :: z20 parent (treeV v) := fun i => by rw [List.mem_append, hun]
  rw [hmem]
  rcases zcj (New := fun a => a ∈ nodesV x) h hnr (fun a ha => Nat.lt_of_lt_of_le (z4s hur a ha) hnm2) hE a ha with ⟨g1, g2⟩ | ⟨g1, g2, g3⟩ | g
  ·rw [zd1 hm, hanc] at g2
   exact .inr ⟨by omega, .inl (.inr g2)⟩
  ·rw [zd1 hm, hanc] at g3
   rcases o2 a g2 with ⟨e1, e2, e3⟩ | ⟨e1, e2⟩
   ·exact .inl ⟨e1, e2, fun h => h.elim e3 g3⟩
   ·exact .inr ⟨e1, e2.imp .inl _root_.id⟩
  ·have hav : a ∈ nodesV v := by
    have := zov v x hxv a g
    exact this
   refine .inl ⟨z4s hu a hav, hav, fun h => ?_⟩
   rcases h with h | h
   ·exact zyl hn hum hid hux _ h (hxi a g)
   ·exact zyl hn hp hid hpx _ h (hxi a g)
end Tr
end
section
open Abs Facts Tr
attribute [local irreducible] awp
set_option maxRecDepth 100000
def z60 (x : Nd) : List D := [.int .i64 x.id.act, .int .i64 x.id.item, .int .i64 x.id.n, .int .i64 x.by_]
def zhs (x : Nd) : D := .agg (z60 x)
def zow (l : List Nd) : D := .rsl false 4 (l.map zhs)
def z0s (x : Vn) : List D := [.int .i64 x.u.id.act, .int .i64 x.u.id.item, .int .i64 x.u.id.n, .int .i64 x.u.kind, .str x.u.label, z0r x.u.head, z0r x.u.words, z13 x.u.kids, zow x.l]
def z1l (x : Vn) : D := .agg (z0s x)
theorem zem (x : Nd) : pureD.pureL (z60 x) = true := rfl
theorem ztu (x : Nd) : pureD (zhs x) = true := rfl
theorem z1h (l : List Nd) : pureD (zow l) = true := z0x ztu l
theorem z0z (x : Vn) : pureD (z1l x) = true := by
 unfold z1l z0s
 simp only [pureD, pureD.pureL, z0d, z0t, z1h, Bool.and_self]
theorem byN_at {l : List Nd} {id : Idv} {i : Nat} (hi : i < l.length) (h : ∀ x ∈ l.take i, ¬ x.id = id) (he : l[i].id = id) : byN l id = l[i].by_ := by
 unfold byN
 have hsp : l = l.take i ++ l[i] :: l.drop (i + 1) := by rw [<- List.drop_eq_getElem_cons hi, List.take_append_drop]
 have hf : l.find? (fun x => decide (x.id = id)) = some l[i] := by
  conv => lhs; rw [hsp]
  rw [List.find?_append, List.find?_eq_none.2 (fun x hx => by simpa using h x hx), List.find?_cons, decide_eq_true he]; rfl
 rw [hf]
theorem byN_no {l : List Nd} {id : Idv} (h : ∀ x ∈ l, ¬ x.id = id) : byN l id = -1 := by
 unfold byN
 rw [List.find?_eq_none.2 (fun x hx => by simpa using h x hx)]
theorem zym (l : List Nd) (hl : l.length <= 1000000) (id : Idv) : PC prog 47 [zow l, z0n id] (.int .i64 (byN l id)) := by
 refine z1g 1 (by simp only [pureD.pureL, z1h]; rfl) rfl (z14 [] func47 rfl (by decide +kernel) rfl ?_)
 show awp _ _ (Code.seq _ _) _ _
 repeat' (first | refine zqj ?_ | ((refine zqh fun K J => ?_); (simp (disch := omega) only [go_sem, zow, z0n, z07])) | refine zqa ?_ | (refine J _ ?_; clear J K))
 (refine z4m (fun U st => ∃ (i : _), U = l.length - i /\ st.t 0 = .rsl false 4 (l.map zhs) /\ st.t 3 = .ptr 0 0 /\ st.t 5 = .int .i64 i /\ st.H 0 = some (.box 23 (z07 id)) /\ (i <= l.length) /\ (∀ x ∈ l.take i, ¬ x.id = id)) ?_ ?_); rotate_left; (rintro U st ⟨i, rfl, q0, q3, q5, qH0, qp0, qp1⟩); rotate_left
 ·(refine ⟨_, 0, rfl, ?_⟩); (simp (disch := omega) only [go_sem, Nat.reduceBEq, true_and, Int.natCast_zero, z07])
  exact fun x hx => by cases hx
 have hge := fun (h : i < l.length) => (show (l.map zhs)[i]? = some (zhs l[i]) from by rw [List.getElem?_map, List.getElem?_eq_getElem h]; rfl)
 by_cases hi : i < l.length
 ·have hg := hge hi
  repeat' (first | refine zqj ?_ | ((first | refine zqh fun K J => ?_ | refine zqe (by decide +kernel) fun K J => ?_ | refine zqr fun K J => ?_); (simp (disch := omega) only [go_sem, Nat.reduceBEq, ↓reduceIte, reduceCtorEq, Nat.reduceAdd, Nat.reduceLeDiff, q0, q3, q5, qH0, zhs, z60, z07])) | ((first | refine zqd _ rfl (fun hc => ?_) (fun hc => ?_) | refine zqm _ rfl (fun hc => ?_) (fun hc => ?_)) <;> (((try simp only [z0b] at hc); (try omega)))) | refine zqa ?_ | refine zqb ?_ | refine zqk ?_ | refine zqn ?_ | refine zqv ?_ | refine zqx ?_ | refine zqy ?_ | refine z6q ?_ | refine zqo ?_ | refine zqu (by simp only [go_sem]; rfl) rfl ?_ | (refine J _ ?_; clear J K))
  ·refine z1e ?_
   exact (byN_at hi qp1 (by assumption)).symm
  ·(refine Exists.intro _ (And.intro ?_ ⟨i + 1, rfl, ?_⟩)); rotate_left; (simp (disch := omega) only [go_sem, Nat.reduceBEq, q0, q3, q5, qH0, true_and, Int.natCast_add, Int.natCast_one]); rotate_left
   ·omega
   ·refine ⟨by omega, fun x hx => ?_⟩
    rw [List.take_succ_eq_append_getElem hi, List.mem_append, List.mem_singleton] at hx
    rcases hx with hx | rfl
    ·exact qp1 x hx
    ·assumption
 ·repeat' (first | refine zqj ?_ | ((refine zqh fun K J => ?_); (simp (disch := omega) only [go_sem, Nat.reduceBEq, ↓reduceIte, q0, q5])) | ((refine zqd _ rfl (fun hc => ?_) (fun hc => ?_)) <;> (((try simp only [z0b] at hc); (try omega)))) | refine zqc ?_ | refine zqn ?_ | refine zqv ?_ | refine zqz ?_ | refine zqp ?_ | refine zqu (by simp only [go_sem]; rfl) rfl ?_ | (refine J _ ?_; clear J K))
  refine z1e ?_
  rw [List.take_of_length_le (by omega)] at qp1
  exact (byN_no qp1).symm
theorem pc_in15 (l : List Idv) (hl : l.length <= 1000000) (id : Idv) : PC prog 156 [z22 l, z0n id] (.bool (decide (id ∈ l))) := by
 refine z1g 1 (by simp only [pureD.pureL, z4y]; rfl) rfl (z14 [] func156 rfl (by decide +kernel) rfl ?_)
 show awp _ _ (Code.seq _ _) _ _
 repeat' (first | refine zqj ?_ | ((refine zqh fun K J => ?_); (simp (disch := omega) only [go_sem, z22, z0n, z07])) | refine zqa ?_ | (refine J _ ?_; clear J K))
 (refine z4m (fun U st => ∃ (i : _), U = l.length - i /\ st.t 0 = .rsl false 3 (l.map z0n) /\ st.t 3 = .ptr 0 0 /\ st.t 5 = .int .i64 i /\ st.H 0 = some (.box 23 (z07 id)) /\ (i <= l.length) /\ (id ∉ l.take i)) ?_ ?_); rotate_left; (rintro U st ⟨i, rfl, q0, q3, q5, qH0, qp0, qp1⟩); rotate_left
 ·(refine ⟨_, 0, rfl, ?_⟩); (simp (disch := omega) only [go_sem, Nat.reduceBEq, true_and, Int.natCast_zero, z07])
  simp
 by_cases hi : i < l.length
 ·have hg := (show (l.map z0n)[i]? = some (z0n l[i]) from by rw [List.getElem?_map, List.getElem?_eq_getElem hi]; rfl)
  repeat' (first | refine zqj ?_ | ((first | refine zqh fun K J => ?_ | refine zqe (by decide +kernel) fun K J => ?_ | refine zqr fun K J => ?_); (simp (disch := omega) only [go_sem, Nat.reduceBEq, ↓reduceIte, reduceCtorEq, Nat.reduceAdd, Nat.reduceLeDiff, q0, q3, q5, qH0, z0n, z07])) | ((first | refine zqd _ rfl (fun hc => ?_) (fun hc => ?_) | refine zqm _ rfl (fun hc => ?_) (fun hc => ?_)) <;> (((try simp only [z0b] at hc); (try omega)))) | refine zqa ?_ | refine zqb ?_ | refine zqk ?_ | refine zqn ?_ | refine zqv ?_ | refine zqx ?_ | refine zqy ?_ | refine z6q ?_ | refine zqo ?_ | refine zqu (by simp only [go_sem]; rfl) rfl ?_ | (refine J _ ?_; clear J K))
  ·refine z03 ?_
   rename_i he
   refine (decide_eq_true ?_).symm
   have := List.getElem_mem hi
   simp_all
  ·(refine Exists.intro _ (And.intro ?_ ⟨i + 1, rfl, ?_⟩)); rotate_left; (simp (disch := omega) only [go_sem, Nat.reduceBEq, q0, q3, q5, qH0, true_and, Int.natCast_add, Int.natCast_one]); rotate_left
   ·omega
   ·refine ⟨by omega, fun hx => ?_⟩
    rw [List.take_succ_eq_append_getElem hi, List.mem_append, List.mem_singleton] at hx
    rcases hx with hx | hx
    ·exact qp1 hx
    ·simp_all
 ·repeat' (first | refine zqj ?_ | ((refine zqh fun K J => ?_); (simp (disch := omega) only [go_sem, Nat.reduceBEq, ↓reduceIte, q0, q5])) | ((refine zqd _ rfl (fun hc => ?_) (fun hc => ?_)) <;> (((try simp only [z0b] at hc); (try omega)))) | refine zqc ?_ | refine zqn ?_ | refine zqv ?_ | refine zqz ?_ | refine zqp ?_ | refine zqu (by simp only [go_sem]; rfl) rfl ?_ | (refine J _ ?_; clear J K))
  refine z03 ?_
  rw [List.take_of_length_le (by omega)] at qp1
  exact (decide_eq_false qp1).symm
theorem zd3 (u : T) (hs : szB u = true) (hd : depT u <= 1000000) (id : Idv) : PC prog 104 [z0m u, z0n id] (z22 (id :: z20 id u)) := by
 have c1 := zjx id u hs (by omega)
 have hl := z4v id u
 have hfl := z58 (f := z07) (sz := 3) (fun _ => rfl) (id :: z20 id u)
 refine z1g 2 (by simp only [pureD.pureL, z02]; rfl) (z4y _) (z14 [6, 3000005, 3000007, 3000008, 5000009] func104 rfl (by decide +kernel) rfl ?_)
 show awp _ _ (Code.seq _ _) _ _
 repeat' (first | ((first | refine zqh fun K J => ?_ | refine zqe (by decide +kernel) fun K J => ?_ | refine zqt (c1) ?_); (simp (disch := omega) only [go_sem, Nat.reduceBEq, Nat.reduceEqDiff, ↓reduceIte, reduceCtorEq, Nat.reduceAdd, Nat.reduceMul, Nat.reduceLeDiff, Nat.reduceLT, z22, z0n, z07, List.length_map, z63])) | refine zqn ?_ | refine zqu (by simp only [go_sem]; rfl) rfl ?_ | (refine J _ ?_; clear J K))
 refine z50 ?_
 rw [show 1 + (z20 id u).length = (id :: z20 id u).length from by simp [Nat.add_comm]]
 refine z2j (f := z07) (l := id :: z20 id u) 0 ?_ z1i z99 (fun _ => rfl) (fun _ => rfl)
 (simp (disch := omega) only [go_sem, Nat.reduceBEq])
 simp [z07, Nat.add_comm]
theorem pc_Of15 (u : T) (hs : szB u = true) (hcn : cntT u <= 1000000) (b : Int) : PC prog 24 [z0m u, .int .i64 b] (z1l (ofV u b)) := by
 have c1 := zpf u hs (by omega)
 have hil := z2n u
 have hcu := z0f u
 rw [z0m, hcu] at c1
 refine z1g 4 (by simp only [pureD.pureL, z02, pureD, Bool.and_self]) (z0z _) (z14 [] func24 rfl (by decide +kernel) rfl ?_)
 show awp _ _ (Code.seq _ _) _ _
 rw [show Tryz.f24.results.toList = [.cell 4 49] from rfl]
 repeat' (first | ((refine z36 (N := 2) rfl fun K J => ?_); (simp (disch := omega) only [go_sem, Nat.reduceBEq, ↓reduceIte, Nat.reduceAdd, Nat.reduceLeDiff, z0m, hcu])) | (refine J _ ?_; clear J K))
 refine z3j fun K J => ?_
 (try (simp (disch := omega) only [go_sem, Nat.reduceBEq, ↓reduceIte, Nat.reduceAdd, Nat.reduceLeDiff])); repeat' (((refine zqs (c1) ?_); (simp (disch := omega) only [go_sem, Nat.reduceBEq, z22])))
 refine J _ _ (z71 (b := 2) (off := 8) (e := 49) 86 (by (simp (disch := omega) only [go_sem, Nat.reduceBEq]); rfl) rfl) ?_
 clear J K
 repeat' (first | refine zqj ?_ | ((refine zqh fun K J => ?_); (simp (disch := omega) only [go_sem, Nat.reduceAdd, List.set_cons_succ, List.set_cons_zero])) | refine zqa ?_ | (refine J _ ?_; clear J K))
 (refine z4m (fun U st => ∃ (i : _), U = (idsT u).length - i /\ st.t 1 = .int .i64 b /\ st.t 4 = .ptr 1 0 /\ st.t 5 = .ptr 2 0 /\ st.t 6 = .rsl false 3 ((idsT u).map z0n) /\ st.t 7 = .int .i64 i /\ st.H 1 = some (.box 49 [.int .i64 0, .int .i64 0, .int .i64 0, .int .i64 0, .str ByteArray.empty, .nil, .nil, .nil, .nil]) /\ st.H 2 = some (.box 49 [.int .i64 u.id.act, .int .i64 u.id.item, .int .i64 u.id.n, .int .i64 u.kind, .str u.label, z0r u.head, z0r u.words, z13 u.kids, .osl 3 i]) /\ st.H 3 = some (.row 86 i ((((idsT u).take i).map fun x => (⟨x, b⟩ : Nd)).flatMap z60)) /\ (i <= (idsT u).length) /\ (4 <= st.nx)) ?_ ?_); rotate_left; (rintro U st ⟨i, rfl, q1, q4, q5, q6, q7, qH1, qH2, qH3, qp0, qp1⟩); rotate_left
 ·(refine ⟨_, 0, rfl, ?_⟩); (simp (disch := omega) only [go_sem, Nat.reduceBEq, Nat.reduceLeDiff, and_self, Int.natCast_zero, List.flatMap_nil, List.map_nil])
 by_cases hi : i < (idsT u).length
 ·have hg := (show ((idsT u).map z0n)[i]? = some (z0n (idsT u)[i]) from by rw [List.getElem?_map, List.getElem?_eq_getElem hi]; rfl)
  have htk := List.take_succ_eq_append_getElem hi
  repeat' (first | refine zqj ?_ | ((first | refine zqh fun K J => ?_ | refine zqr fun K J => ?_ | refine zqq (by decide +kernel) fun K J => ?_); (simp (disch := omega) only [go_sem, Nat.reduceBEq, ↓reduceIte, reduceCtorEq, Nat.reduceAdd, Nat.reduceMul, Nat.reduceLeDiff, Nat.reduceLT, q1, q5, q6, q7, qH2, qH3, z0n, z07, List.set_cons_succ, List.set_cons_zero])) | ((refine zqd _ rfl (fun hc => ?_) (fun hc => ?_)) <;> (((try simp only [z0b] at hc); (try omega)))) | refine zqa ?_ | refine zqb ?_ | refine zqv ?_ | refine zqy ?_ | (refine J _ ?_; clear J K))
  (refine Exists.intro _ (And.intro ?_ ⟨i + 1, rfl, ?_⟩)); rotate_left; (simp (disch := omega) only [go_sem, Nat.reduceBEq, q1, q4, q5, q6, q7, qH1, qH2, qH3, true_and, Int.natCast_add, Int.natCast_one, List.flatMap_append, List.flatMap_cons, List.flatMap_nil, List.map_append, List.map_cons, List.map_nil, List.append_nil, htk, z60]); rotate_left
  ·omega
  ·omega
 ·repeat' (first | refine zqj ?_ | ((refine zqh fun K J => ?_); (simp (disch := omega) only [go_sem, Nat.reduceBEq, ↓reduceIte, Nat.reduceAdd, Nat.reduceLeDiff, q4, q5, q6, q7, qH1, qH2, List.set_cons_succ, List.set_cons_zero])) | ((refine zqd _ rfl (fun hc => ?_) (fun hc => ?_)) <;> (((try simp only [z0b] at hc); (try omega)))) | refine zqc ?_ | refine zqn ?_ | refine zqv ?_ | refine zqz ?_ | refine zqp ?_ | refine zqu (by (simp (disch := omega) only [go_sem, Nat.reduceBEq, ↓reduceIte, Nat.reduceAdd, Nat.reduceLeDiff, q4, qH1]); rfl) rfl ?_ | (refine J _ ?_; clear J K))
  have hi2 : i = (idsT u).length := by omega
  subst hi2
  rw [List.take_length] at qH3
  have hlen : (idsT u).length = ((idsT u).map fun x => (⟨x, b⟩ : Nd)).length := by simp
  unfold z1l z0s ofV
  refine z50 (z5d (k := 3) (by simp [pureD.pureL, pureD]) ?_)
  refine z00 (z08 2 rfl) (z00 (z08 2 rfl) (z00 (z08 2 rfl) (z00 (z08 2 rfl) (z00 (z08 2 rfl) (z00 (z08 2 (z0d _)) (z00 (z08 2 (z0d _)) (z00 (z08 2 (z0t _)) (z00 ?_ z0c))))))))
  rw [hlen]
  refine z2j (f := z60) (l := (idsT u).map fun x => (⟨x, b⟩ : Nd)) 1 ?_ zr3 zxi (fun _ => rfl) zem
  (simp (disch := omega) only [go_sem, Nat.reduceBEq, qH3])
theorem z78 (old : Vn) (hol : old.l.length <= 1000000) (u : T) (hs : szB u = true) (hcn : cntT u <= 1000000) (made : List Idv) (hm : made.length <= 1000000) (n : Int) : PC prog 103 [z1l old, z0m u, z22 made, .int .i64 n] (z1l (z80 old u made n)) := by
 have c1 := zpf u hs (by omega)
 have hil := z2n u
 have hcu := z0f u
 have cb := zym old.l hol
 have ci := pc_in15 made hm
 rw [z0m, hcu] at c1
 refine z1g 4 (by simp only [pureD.pureL, z02, z0z, z4y, pureD, Bool.and_self]) (z0z _) (z14 [] func103 rfl (by decide +kernel) rfl ?_)
 show awp _ _ (Code.seq _ _) _ _
 rw [show Tryz.f103.results.toList = [.cell 8 49] from rfl]
 repeat' (first | ((refine z36 (N := 2) rfl fun K J => ?_); (simp (disch := omega) only [go_sem, Nat.reduceBEq, ↓reduceIte, Nat.reduceAdd, Nat.reduceLeDiff, z0m, hcu, z1l, z0s])) | (refine J _ ?_; clear J K))
 refine z3j fun K J => ?_
 (try (simp (disch := omega) only [go_sem, Nat.reduceBEq, ↓reduceIte, Nat.reduceAdd, Nat.reduceLeDiff, z22])); repeat' (((refine zqs (c1) ?_); (simp (disch := omega) only [go_sem, Nat.reduceBEq, z22])))
 refine J _ _ (z71 (b := 3) (off := 8) (e := 49) 86 (by (simp (disch := omega) only [go_sem, Nat.reduceBEq]); rfl) rfl) ?_
 clear J K
 repeat' (first | refine zqj ?_ | ((refine zqh fun K J => ?_); (simp (disch := omega) only [go_sem, Nat.reduceAdd, List.set_cons_succ, List.set_cons_zero])) | refine zqa ?_ | (refine J _ ?_; clear J K))
 (refine z4m (fun U st => ∃ (i : _), U = (idsT u).length - i /\ st.t 2 = z22 made /\ st.t 3 = .int .i64 n /\ st.t 4 = .ptr 0 0 /\ st.t 8 = .ptr 2 0 /\ st.t 9 = .ptr 3 0 /\ st.t 10 = .rsl false 3 ((idsT u).map z0n) /\ st.t 11 = .int .i64 i /\ st.H 0 = some (.box 49 (z0s old)) /\ st.H 2 = some (.box 49 [.int .i64 0, .int .i64 0, .int .i64 0, .int .i64 0, .str ByteArray.empty, .nil, .nil, .nil, .nil]) /\ st.H 3 = some (.box 49 [.int .i64 u.id.act, .int .i64 u.id.item, .int .i64 u.id.n, .int .i64 u.kind, .str u.label, z0r u.head, z0r u.words, z13 u.kids, .osl 4 i]) /\ st.H 4 = some (.row 86 i ((((idsT u).take i).map fun x => (⟨x, if byN old.l x < 0 \/ x ∈ made then n else byN old.l x⟩ : Nd)).flatMap z60)) /\ (i <= (idsT u).length) /\ (5 <= st.nx)) ?_ ?_); rotate_left; (rintro U st ⟨i, rfl, q2, q3, q4, q8, q9, q10, q11, qH0, qH2, qH3, qH4, qp0, qp1⟩); rotate_left
 ·(refine ⟨_, 0, rfl, ?_⟩); (simp (disch := omega) only [go_sem, Nat.reduceBEq, Nat.reduceLeDiff, and_self, Int.natCast_zero, List.flatMap_nil, List.map_nil, z0s, z22])
 by_cases hi : i < (idsT u).length
 ·have hg := (show ((idsT u).map z0n)[i]? = some (z0n (idsT u)[i]) from by rw [List.getElem?_map, List.getElem?_eq_getElem hi]; rfl)
  have htk := List.take_succ_eq_append_getElem hi
  have cb := cb (idsT u)[i]
  have ci := ci (idsT u)[i]
  by_cases hb0 : byN old.l (idsT u)[i] < 0
  ·have hk : (if byN old.l (idsT u)[i] < 0 \/ (idsT u)[i] ∈ made then n else byN old.l (idsT u)[i]) = n := if_pos (.inl hb0)
   repeat' (first | refine zqj ?_ | ((first | refine zqh fun K J => ?_ | refine zqe (by decide +kernel) fun K J => ?_ | refine zqr fun K J => ?_ | refine zqq (by decide +kernel) fun K J => ?_ | refine zqt (cb) ?_); (simp (disch := omega) only [go_sem, Nat.reduceBEq, ↓reduceIte, reduceCtorEq, Nat.reduceAdd, Nat.reduceMul, Nat.reduceLeDiff, Nat.reduceLT, q3, q4, q9, q10, q11, qH0, qH3, qH4, z0n, z07, z0s, List.set_cons_succ, List.set_cons_zero])) | ((refine zqd _ rfl (fun hc => ?_) (fun hc => ?_)) <;> (first | (cases hc; done) | ((try simp only [z0b] at hc); (try omega)))) | refine zqa ?_ | refine zqb ?_ | refine zqv ?_ | refine zqy ?_ | (refine J _ ?_; clear J K) | (refine zqf (fun hb => ?_) (fun hb => ?_) <;> (have hb2 := hb; try simp only [z0b] at hb2) <;> ((first | have hb3 := eq_false hb2 | have hb3 := eq_true hb2); (simp (disch := omega) only [go_sem, Nat.reduceBEq, ↓reduceIte, reduceCtorEq, Nat.reduceAdd, hb3, q2, q10, q11, z0n, z07]); clear hb hb3; (try omega))))
   (refine Exists.intro _ (And.intro ?_ ⟨i + 1, rfl, ?_⟩)); rotate_left; (simp (disch := omega) only [go_sem, Nat.reduceBEq, q2, q3, q4, q8, q9, q10, q11, qH0, qH2, qH3, qH4, true_and, Int.natCast_add, Int.natCast_one, List.flatMap_append, List.flatMap_cons, List.flatMap_nil, List.map_append, List.map_cons, List.map_nil, List.append_nil, htk, hk, z60, z0s]); rotate_left
   ·omega
   ·omega
  by_cases hin : (idsT u)[i] ∈ made
  ·rw [decide_eq_true hin] at ci
   have hk : (if byN old.l (idsT u)[i] < 0 \/ (idsT u)[i] ∈ made then n else byN old.l (idsT u)[i]) = n := if_pos (.inr hin)
   repeat' (first | refine zqj ?_ | ((first | refine zqh fun K J => ?_ | refine zqe (by decide +kernel) fun K J => ?_ | refine zqr fun K J => ?_ | refine zqq (by decide +kernel) fun K J => ?_ | refine zqt (cb) ?_ | refine zqs (ci) ?_); (simp (disch := omega) only [go_sem, Nat.reduceBEq, ↓reduceIte, reduceCtorEq, Nat.reduceAdd, Nat.reduceMul, Nat.reduceLeDiff, Nat.reduceLT, q3, q4, q9, q10, q11, qH0, qH3, qH4, z0n, z07, z0s, List.set_cons_succ, List.set_cons_zero])) | ((refine zqd _ rfl (fun hc => ?_) (fun hc => ?_)) <;> (first | (cases hc; done) | ((try simp only [z0b] at hc); (try omega)))) | refine zqa ?_ | refine zqb ?_ | refine zqv ?_ | refine zqy ?_ | (refine J _ ?_; clear J K) | (refine zqf (fun hb => ?_) (fun hb => ?_) <;> (have hb2 := hb; try simp only [z0b] at hb2) <;> ((first | have hb3 := eq_false hb2 | have hb3 := eq_true hb2); (simp (disch := omega) only [go_sem, Nat.reduceBEq, ↓reduceIte, reduceCtorEq, Nat.reduceAdd, hb3, q2, q10, q11, z0n, z07]); clear hb hb3; (try omega))))
   (refine Exists.intro _ (And.intro ?_ ⟨i + 1, rfl, ?_⟩)); rotate_left; (simp (disch := omega) only [go_sem, Nat.reduceBEq, q2, q3, q4, q8, q9, q10, q11, qH0, qH2, qH3, qH4, true_and, Int.natCast_add, Int.natCast_one, List.flatMap_append, List.flatMap_cons, List.flatMap_nil, List.map_append, List.map_cons, List.map_nil, List.append_nil, htk, hk, z60, z0s]); rotate_left
   ·omega
   ·omega
  ·rw [decide_eq_false hin] at ci
   have hk : (if byN old.l (idsT u)[i] < 0 \/ (idsT u)[i] ∈ made then n else byN old.l (idsT u)[i]) = byN old.l (idsT u)[i] := if_neg fun h => h.elim hb0 hin
   repeat' (first | refine zqj ?_ | ((first | refine zqh fun K J => ?_ | refine zqe (by decide +kernel) fun K J => ?_ | refine zqr fun K J => ?_ | refine zqq (by decide +kernel) fun K J => ?_ | refine zqt (cb) ?_ | refine zqs (ci) ?_); (simp (disch := omega) only [go_sem, Nat.reduceBEq, ↓reduceIte, reduceCtorEq, Nat.reduceAdd, Nat.reduceMul, Nat.reduceLeDiff, Nat.reduceLT, q4, q9, q10, q11, qH0, qH3, qH4, z0n, z07, z0s, List.set_cons_succ, List.set_cons_zero])) | ((refine zqd _ rfl (fun hc => ?_) (fun hc => ?_)) <;> (first | (cases hc; done) | ((try simp only [z0b] at hc); (try omega)))) | refine zqa ?_ | refine zqb ?_ | refine zqv ?_ | refine zqy ?_ | (refine J _ ?_; clear J K) | (refine zqf (fun hb => ?_) (fun hb => ?_) <;> (have hb2 := hb; try simp only [z0b] at hb2) <;> ((first | have hb3 := eq_false hb2 | have hb3 := eq_true hb2); (simp (disch := omega) only [go_sem, Nat.reduceBEq, ↓reduceIte, reduceCtorEq, Nat.reduceAdd, hb3, q2, q10, q11, z0n, z07]); clear hb hb3; (try omega))))
   (refine Exists.intro _ (And.intro ?_ ⟨i + 1, rfl, ?_⟩)); rotate_left; (simp (disch := omega) only [go_sem, Nat.reduceBEq, q2, q3, q4, q8, q9, q10, q11, qH0, qH2, qH3, qH4, true_and, Int.natCast_add, Int.natCast_one, List.flatMap_append, List.flatMap_cons, List.flatMap_nil, List.map_append, List.map_cons, List.map_nil, List.append_nil, htk, hk, z60, z0s]); rotate_left
   ·omega
   ·omega
 ·repeat' (first | refine zqj ?_ | ((refine zqh fun K J => ?_); (simp (disch := omega) only [go_sem, Nat.reduceBEq, ↓reduceIte, Nat.reduceAdd, Nat.reduceLeDiff, q8, q9, q10, q11, qH2, qH3, List.set_cons_succ, List.set_cons_zero])) | ((refine zqd _ rfl (fun hc => ?_) (fun hc => ?_)) <;> (((try simp only [z0b] at hc); (try omega)))) | refine zqc ?_ | refine zqn ?_ | refine zqv ?_ | refine zqz ?_ | refine zqp ?_ | refine zqu (by (simp (disch := omega) only [go_sem, Nat.reduceBEq, ↓reduceIte, Nat.reduceAdd, Nat.reduceLeDiff, q8, qH2]); rfl) rfl ?_ | (refine J _ ?_; clear J K))
  have hi2 : i = (idsT u).length := by omega
  subst hi2
  rw [List.take_length] at qH4
  have hlen : (idsT u).length = ((idsT u).map fun x => (⟨x, if byN old.l x < 0 \/ x ∈ made then n else byN old.l x⟩ : Nd)).length := by simp
  unfold z1l z0s z80
  refine z50 (z5d (k := 3) (by simp [pureD.pureL, pureD]) ?_)
  refine z00 (z08 2 rfl) (z00 (z08 2 rfl) (z00 (z08 2 rfl) (z00 (z08 2 rfl) (z00 (z08 2 rfl) (z00 (z08 2 (z0d _)) (z00 (z08 2 (z0d _)) (z00 (z08 2 (z0t _)) (z00 ?_ z0c))))))))
  rw [hlen]
  refine z2j (f := z60) (l := (idsT u).map fun x => (⟨x, if byN old.l x < 0 \/ x ∈ made then n else byN old.l x⟩ : Nd)) 1 ?_ zr3 zxi (fun _ => rfl) zem
  (simp (disch := omega) only [go_sem, Nat.reduceBEq, qH4])
theorem ztv (x y : Vn) (hx : x.l.length <= 1000000) (hy : y.l.length <= 1000000) : PC prog 22 [z1l x, z1l y] (.int .i64 (zh2 x y : Nat)) := by
 have cb := zym y.l hy
 refine z1g 1 (by simp only [pureD.pureL, z0z, Bool.and_self]) rfl (z14 [] func22 rfl (by decide +kernel) rfl ?_)
 show awp _ _ (Code.seq _ _) _ _
 repeat' (first | refine zqj ?_ | ((refine zqh fun K J => ?_); (simp (disch := omega) only [go_sem, Nat.reduceBEq, Nat.reduceAdd, z1l, z0s])) | refine zqa ?_ | (refine J _ ?_; clear J K))
 (refine z4m (fun U st => ∃ (i : _), U = x.l.length - i /\ st.t 2 = .ptr 0 0 /\ st.t 3 = .ptr 1 0 /\ st.t 5 = .int .i64 ((x.l.take i).countP fun a => decide (¬ byN y.l a.id = a.by_) : Nat) /\ st.t 6 = .int .i64 i /\ st.H 0 = some (.box 49 (z0s x)) /\ st.H 1 = some (.box 49 (z0s y)) /\ (i <= x.l.length)) ?_ ?_); rotate_left; (rintro U st ⟨i, rfl, q2, q3, q5, q6, qH0, qH1, qp0⟩); rotate_left
 ·(refine ⟨_, 0, rfl, ?_⟩); (simp (disch := omega) only [go_sem, Nat.reduceBEq, true_and, and_true, and_self, Int.natCast_zero, z0s])
  rfl
 have hcl : ((x.l.take i).countP fun a => decide (¬ byN y.l a.id = a.by_)) <= i := Nat.le_trans (List.countP_le_length) (by rw [List.length_take]; omega)
 by_cases hi : i < x.l.length
 ·have hg := (show (x.l.map zhs)[i]? = some (zhs x.l[i]) from by rw [List.getElem?_map, List.getElem?_eq_getElem hi]; rfl)
  have htk := List.take_succ_eq_append_getElem hi
  have cb := cb x.l[i].id
  by_cases hb : byN y.l x.l[i].id = x.l[i].by_
  ·have hcp : ((x.l.take (i + 1)).countP fun a => decide (¬ byN y.l a.id = a.by_)) = (x.l.take i).countP fun a => decide (¬ byN y.l a.id = a.by_) := by
    rw [htk, List.countP_append]; simp [hb]
   repeat' (first | refine zqj ?_ | ((first | refine zqh fun K J => ?_ | refine zqe (by decide +kernel) fun K J => ?_ | refine zqr fun K J => ?_ | refine zqt (cb) ?_); (simp (disch := omega) only [go_sem, Nat.reduceBEq, ↓reduceIte, reduceCtorEq, Nat.reduceAdd, Nat.reduceLeDiff, q2, q3, q6, qH0, qH1, zow, zhs, z60, z0s, hb])) | ((first | refine zqd _ rfl (fun hc => ?_) (fun hc => ?_) | refine zqm _ rfl (fun hc => ?_) (fun hc => ?_)) <;> (first | (cases hc; done) | ((try simp only [z0b] at hc); (try omega)))) | refine zqa ?_ | refine zqb ?_ | refine zqk ?_ | refine zqv ?_ | refine zqy ?_ | (refine J _ ?_; clear J K))
   (refine Exists.intro _ (And.intro ?_ ⟨i + 1, rfl, ?_⟩)); rotate_left; (simp (disch := omega) only [go_sem, Nat.reduceBEq, q2, q3, q5, q6, qH0, qH1, true_and, Int.natCast_add, Int.natCast_one, hcp, z0s]); rotate_left
   ·omega
   ·omega
  ·have hcp : ((x.l.take (i + 1)).countP fun a => decide (¬ byN y.l a.id = a.by_)) = ((x.l.take i).countP fun a => decide (¬ byN y.l a.id = a.by_)) + 1 := by
    rw [htk, List.countP_append]; simp [hb]
   repeat' (first | refine zqj ?_ | ((first | refine zqh fun K J => ?_ | refine zqe (by decide +kernel) fun K J => ?_ | refine zqr fun K J => ?_ | refine zqt (cb) ?_); (simp (disch := omega) only [go_sem, Nat.reduceBEq, ↓reduceIte, reduceCtorEq, Nat.reduceAdd, Nat.reduceLeDiff, q2, q3, q5, q6, qH0, qH1, zow, zhs, z60, z0s, hb])) | ((first | refine zqd _ rfl (fun hc => ?_) (fun hc => ?_) | refine zqm _ rfl (fun hc => ?_) (fun hc => ?_)) <;> (first | (cases hc; done) | ((try simp only [z0b] at hc); (try omega)))) | refine zqa ?_ | refine zqb ?_ | refine zqv ?_ | refine zqy ?_ | (refine J _ ?_; clear J K))
   (refine Exists.intro _ (And.intro ?_ ⟨i + 1, rfl, ?_⟩)); rotate_left; (simp (disch := omega) only [go_sem, Nat.reduceBEq, q2, q3, q5, q6, qH0, qH1, true_and, Int.natCast_add, Int.natCast_one, hcp, z0s]); rotate_left
   ·omega
   ·omega
 ·repeat' (first | refine zqj ?_ | ((refine zqh fun K J => ?_); (simp (disch := omega) only [go_sem, Nat.reduceBEq, ↓reduceIte, reduceCtorEq, Nat.reduceAdd, q2, q5, q6, qH0, zow, z0s])) | ((refine zqd _ rfl (fun hc => ?_) (fun hc => ?_)) <;> (((try simp only [z0b] at hc); (try omega)))) | refine zqc ?_ | refine zqn ?_ | refine zqv ?_ | refine zqz ?_ | refine zqp ?_ | refine zqu (by simp only [go_sem]; rfl) rfl ?_ | (refine J _ ?_; clear J K))
  refine z1e ?_
  rw [List.take_of_length_le (by omega)]
  rfl
end
section
open Abs Facts Tr
attribute [local irreducible] awp
set_option maxRecDepth 100000
def z5p (e : Int) (x : Vn) (u' : T) (made : List Idv) (n : Int) : Vn := if e = 0 then z80 x u' made n else x
structure VnSz (x : Vn) : Prop where
 sz : szB x.u = true
 cn : cntT x.u <= 1000000
 dp : depT x.u <= 100000
 ln : x.l.length <= 1000000
namespace Tr
theorem zz6 {id : Idv} {f : T -> T} (hf : ∀ q : T, (f q).id = q.id /\ (f q).kids = q.kids) : ∀ u : T, idsT (z0p id f u) = idsT u := by
 refine z5c fun u ih => ?_
 rw [z4b]
 split
 ·rw [z1j, z1j u, (hf u).1, (hf u).2]
 ·rw [z2l, z1j u, List.flatMap_map]
  congr 1
  generalize u.kids = l at ih
  induction l with
  | nil => rfl
  | cons k l ihl => rw [List.flatMap_cons, List.flatMap_cons, ih k (by simp), ihl fun k hk => ih k (List.mem_cons_of_mem _ hk)]
theorem odd_sz {l : List Wd} (h : zu6 l = false) : ∀ w ∈ l, w.text.size <= 1000000 := fun w hw => by
 unfold zu6 at h
 have := List.any_eq_false.1 h w hw
 have h2 : z6e w.text = true := by simpa using this
 unfold z6e at h2
 simp only [Bool.and_eq_true, decide_eq_true_eq] at h2
 omega
theorem zj4 {id : Idv} {f : T -> T} (hf : ∀ q : T, (f q).id = q.id /\ (f q).kids = q.kids) (u : T) : cntT (z0p id f u) = cntT u := by
 rw [<- z2n, zz6 hf u, z2n]
end Tr
section
variable {x : Vn}
theorem zna (hx : VnSz x) (t : T) (hst : szB t = true) (hct : cntT t <= 1000000) (hdt : depT t <= 100000) (parent : Idv) (i : Int) (hi : -9223372036854775808 <= i /\ i <= 9223372036854775807) (n : Int) :
  PC prog 54 [z1l x, z0n parent, .int .i64 i, z0m t, .int .i64 n] (.tup [z1l (z5p (z25 x.u parent i t) x (z0p parent (z40 i.toNat t) x.u) (parent :: z20 parent x.u) n), .int .i64 (z25 x.u parent i t)]) := by
 obtain ⟨h1, h2, h3, h4⟩ := hx
 have c1 := zts x.u t h1 hst h2 hct (by omega) (by omega) parent i hi
 have c2 := zd3 x.u h1 (by omega) parent
 have hl := z4v parent x.u
 have hcu := z0f x.u
 refine z1g 2 (by simp only [pureD.pureL, z0z, z02, pureD, Bool.and_self]; rfl) (by simp only [pureD, pureD.pureL, z0z, Bool.and_self]) (z14 [] func54 rfl (by decide +kernel) rfl ?_)
 show awp _ _ (Code.seq _ _) _ _
 rw [show Tryz.f54.results.toList = [.cell 10 49, .tmp 11] from rfl]
 rw [z0m, hcu] at c1 c2
 by_cases he : z25 x.u parent i t = 0
 ·have hsz := zrx h1 hst parent i
  rw [he, if_neg (by decide)] at hsz
  have hcn2 : cntT (z0p parent (z40 i.toNat t) x.u) <= 1000000 := by
   obtain ⟨_, _, m, hm, _⟩ := z3p he
   have he2 := he
   rw [hm] at he2
   obtain ⟨_, _, _, _, _, _, _, _, _, _, _, _, _, _, _, hcc⟩ := z7g he2
   have := (z3p he).1.2.2.2.2.2.2.2.2.1
   rw [hm]
   show cntT (z0p parent (z40 m t) x.u) <= _
   omega
  have c3 := z78 x h4 (z0p parent (z40 i.toNat t) x.u) hsz hcn2 (parent :: z20 parent x.u) (by simp; omega) n
  rw [he, if_neg (by decide)] at c1
  rw [he]
  generalize z0p parent (z40 i.toNat t) x.u = u' at c1 c3 ⊢
  repeat' (first | refine zqj ?_ | ((first | refine zqh fun K J => ?_ | refine zqe (by decide +kernel) fun K J => ?_ | refine zqs (c1) ?_ | refine zqt (c2) ?_ | refine zqt (c3) ?_); (simp (disch := omega) only [go_sem, Nat.reduceBEq, ↓reduceIte, reduceCtorEq, Nat.reduceAdd, Nat.reduceLeDiff, z1l, z0s, z0n, z07])) | ((refine zqd _ rfl (fun hc => ?_) (fun hc => ?_)) <;> (first | (cases hc; done) | ((try simp only [] at hc); (try omega)))) | refine zqb ?_ | refine zqn ?_ | refine zqu (by (simp (disch := omega) only [go_sem, Nat.reduceBEq, ↓reduceIte, Nat.reduceAdd, Nat.reduceLeDiff]); rfl) rfl ?_ | (refine J _ ?_; clear J K))
  exact z0a (by simp only [pureD, pureD.pureL, z0d, z0t, z1h, Bool.and_self]) (Le.refl _)
 ·rw [if_pos he] at c1
  generalize z25 x.u parent i t = e at c1 he ⊢
  repeat' (first | refine zqj ?_ | ((first | refine zqh fun K J => ?_ | refine zqs (c1) ?_); (simp (disch := omega) only [go_sem, Nat.reduceBEq, ↓reduceIte, reduceCtorEq, Nat.reduceAdd, Nat.reduceLeDiff, z1l, z0s, z0n, z07])) | ((refine zqd _ rfl (fun hc => ?_) (fun hc => ?_)) <;> (((try simp only [z0b] at hc); (try omega)))) | refine zqg ?_ | refine zqu (by (simp (disch := omega) only [go_sem, Nat.reduceBEq, ↓reduceIte, Nat.reduceAdd, Nat.reduceLeDiff]); rfl) rfl ?_ | (refine J _ ?_; clear J K))
  exact z0a (by simp only [pureD, pureD.pureL, z0d, z0t, z1h, Bool.and_self]) (by unfold z5p; rw [if_neg he]; exact Le.refl _)
theorem zuc (hx : VnSz x) (id : Idv) (n : Int) :
  PC prog 55 [z1l x, z0n id, .int .i64 n] (.tup [z1l (z5p (z4l x.u id) x (z0i id x.u) (z20 id x.u) n), .int .i64 (z4l x.u id)]) := by
 obtain ⟨h1, h2, h3, h4⟩ := hx
 have c1 := pc_Take x.u h1 h2 (by omega) id
 have c2 := zjx id x.u h1 (by omega)
 have hl := z4v id x.u
 rw [z0m, z0f x.u] at c2
 have hcu := z0f x.u
 refine z1g 2 (by simp only [pureD.pureL, z0z, pureD, Bool.and_self]; rfl) (by simp only [pureD, pureD.pureL, z0z, Bool.and_self]) (z14 [] func55 rfl (by decide +kernel) rfl ?_)
 show awp _ _ (Code.seq _ _) _ _
 rw [show Tryz.f55.results.toList = [.cell 6 49, .tmp 7] from rfl]
 rw [z0m, hcu] at c1
 by_cases he : z4l x.u id = 0
 ·have hsz : szB (z0i id x.u) = true := zfi _ h1
  have hcn2 : cntT (z0i id x.u) <= 1000000 := by
   obtain ⟨t1, t2, t3⟩ := zg8 he
   obtain ⟨_, _, _, _, _, _, _, _, _, _, _, _, _, hcc, _⟩ := za2 t1 t3 t2
   omega
  have hmade : (z20 id x.u).length <= 1000000 := by omega
  have c3 := z78 x h4 (z0i id x.u) hsz hcn2 (z20 id x.u) hmade n
  rw [if_pos he, if_pos he] at c1
  rw [he] at c1 ⊢
  generalize z0i id x.u = u' at c1 c3 ⊢
  generalize (z05 id x.u).1 = y at c1
  repeat' (first | refine zqj ?_ | ((first | refine zqh fun K J => ?_ | refine zqe (by decide +kernel) fun K J => ?_ | refine zqs (c1) ?_ | refine zqt (c2) ?_ | refine zqt (c3) ?_); (simp (disch := omega) only [go_sem, Nat.reduceBEq, ↓reduceIte, reduceCtorEq, Nat.reduceAdd, Nat.reduceLeDiff, z1l, z0s, z0n, z07])) | ((refine zqd _ rfl (fun hc => ?_) (fun hc => ?_)) <;> (first | (cases hc; done) | ((try simp only [] at hc); (try omega)))) | refine zqb ?_ | refine zqn ?_ | refine zqu (by (simp (disch := omega) only [go_sem, Nat.reduceBEq, ↓reduceIte, Nat.reduceAdd, Nat.reduceLeDiff]); rfl) rfl ?_ | (refine J _ ?_; clear J K))
  exact z0a (by simp only [pureD, pureD.pureL, z0d, z0t, z1h, Bool.and_self]) (Le.refl _)
 ·rw [if_neg he, if_neg he] at c1
  generalize z4l x.u id = e at c1 he ⊢
  repeat' (first | refine zqj ?_ | ((first | refine zqh fun K J => ?_ | refine zqs (c1) ?_); (simp (disch := omega) only [go_sem, Nat.reduceBEq, ↓reduceIte, reduceCtorEq, Nat.reduceAdd, Nat.reduceLeDiff, z1l, z0s, z0n, z07])) | ((refine zqd _ rfl (fun hc => ?_) (fun hc => ?_)) <;> (((try simp only [z0b] at hc); (try omega)))) | refine zqg ?_ | refine zqu (by (simp (disch := omega) only [go_sem, Nat.reduceBEq, ↓reduceIte, Nat.reduceAdd, Nat.reduceLeDiff]); rfl) rfl ?_ | (refine J _ ?_; clear J K))
  exact z0a (by simp only [pureD, pureD.pureL, z0d, z0t, z1h, Bool.and_self]) (by unfold z5p; rw [if_neg he]; exact Le.refl _)
theorem zkn (hx : VnSz x) (id : Idv) (name : ByteArray) (hnm : name.size <= 1000000) (n : Int) :
  PC prog 57 [z1l x, z0n id, .str name, .int .i64 n] (.tup [z1l (z5p (z9f x.u id name) x (z0p id (fun q => q.setLabel name) x.u) (id :: z20 id x.u) n), .int .i64 (z9f x.u id name)]) := by
 obtain ⟨h1, h2, h3, h4⟩ := hx
 have c1 := zp1 x.u h1 h2 (by omega) id name hnm
 have c2 := zd3 x.u h1 (by omega) id
 have hl := z4v id x.u
 rw [z0m, z0f x.u] at c2
 have hcu := z0f x.u
 refine z1g 2 (by simp only [pureD.pureL, z0z, pureD, Bool.and_self]; rfl) (by simp only [pureD, pureD.pureL, z0z, Bool.and_self]) (z14 [] func57 rfl (by decide +kernel) rfl ?_)
 show awp _ _ (Code.seq _ _) _ _
 rw [show Tryz.f57.results.toList = [.cell 8 49, .tmp 9] from rfl]
 rw [z0m, hcu] at c1
 by_cases he : z9f x.u id name = 0
 ·have hsz : szB (z0p id (fun q => q.setLabel name) x.u) = true := zne (fun q hq _ => zof hnm hq) _ h1
  have hcn2 : cntT (z0p id (fun q => q.setLabel name) x.u) <= 1000000 := by
   rw [zj4 (f := fun q => q.setLabel name) fun q => ⟨rfl, rfl⟩]; exact h2
  have hmade : (id :: z20 id x.u).length <= 1000000 := by simp; omega
  have c3 := z78 x h4 (z0p id (fun q => q.setLabel name) x.u) hsz hcn2 (id :: z20 id x.u) hmade n
  rw [if_pos he] at c1
  rw [he] at c1 ⊢
  generalize z0p id (fun q => q.setLabel name) x.u = u' at c1 c3 ⊢

  repeat' (first | refine zqj ?_ | ((first | refine zqh fun K J => ?_ | refine zqe (by decide +kernel) fun K J => ?_ | refine zqs (c1) ?_ | refine zqt (c2) ?_ | refine zqt (c3) ?_); (simp (disch := omega) only [go_sem, Nat.reduceBEq, ↓reduceIte, reduceCtorEq, Nat.reduceAdd, Nat.reduceLeDiff, z1l, z0s, z0n, z07])) | ((refine zqd _ rfl (fun hc => ?_) (fun hc => ?_)) <;> (first | (cases hc; done) | ((try simp only [] at hc); (try omega)))) | refine zqb ?_ | refine zqn ?_ | refine zqu (by (simp (disch := omega) only [go_sem, Nat.reduceBEq, ↓reduceIte, Nat.reduceAdd, Nat.reduceLeDiff]); rfl) rfl ?_ | (refine J _ ?_; clear J K))
  exact z0a (by simp only [pureD, pureD.pureL, z0d, z0t, z1h, Bool.and_self]) (Le.refl _)
 ·rw [if_neg he] at c1
  generalize z9f x.u id name = e at c1 he ⊢
  repeat' (first | refine zqj ?_ | ((first | refine zqh fun K J => ?_ | refine zqs (c1) ?_); (simp (disch := omega) only [go_sem, Nat.reduceBEq, ↓reduceIte, reduceCtorEq, Nat.reduceAdd, Nat.reduceLeDiff, z1l, z0s, z0n, z07])) | ((refine zqd _ rfl (fun hc => ?_) (fun hc => ?_)) <;> (((try simp only [z0b] at hc); (try omega)))) | refine zqg ?_ | refine zqu (by (simp (disch := omega) only [go_sem, Nat.reduceBEq, ↓reduceIte, Nat.reduceAdd, Nat.reduceLeDiff]); rfl) rfl ?_ | (refine J _ ?_; clear J K))
  exact z0a (by simp only [pureD, pureD.pureL, z0d, z0t, z1h, Bool.and_self]) (by unfold z5p; rw [if_neg he]; exact Le.refl _)
theorem znb (hx : VnSz x) (id : Idv) (l : List Wd) (hl2 : l.length <= 1000000) (hw : ∀ w ∈ l, w.text.size <= maxLen) (n : Int) :
  PC prog 58 [z1l x, z0n id, z0r l, .bool true, .int .i64 n] (.tup [z1l (z5p (z1k x.u id l) x (z0p id (fun q => q.setHead l) x.u) (id :: z20 id x.u) n), .int .i64 (z1k x.u id l)]) := by
 obtain ⟨h1, h2, h3, h4⟩ := hx
 have c1 := zm9 x.u h1 h2 (by omega) id l hl2 hw true
 have c2 := zd3 x.u h1 (by omega) id
 have hl := z4v id x.u
 rw [z0m, z0f x.u] at c2
 rw [show (fun q => if true = true then q.setHead l else q.setWords l) = (fun q : T => q.setHead l) from rfl] at c1
 have hcu := z0f x.u
 refine z1g 2 (by simp only [pureD.pureL, z0z, z0d, pureD, Bool.and_self]; rfl) (by simp only [pureD, pureD.pureL, z0z, Bool.and_self]) (z14 [] func58 rfl (by decide +kernel) rfl ?_)
 show awp _ _ (Code.seq _ _) _ _
 rw [show Tryz.f58.results.toList = [.cell 10 49, .tmp 11] from rfl]
 rw [z0m, hcu] at c1
 by_cases he : z1k x.u id l = 0
 ·have hsz : szB (z0p id (fun q => q.setHead l) x.u) = true := zne (fun q hq _ => zt6 hl2 (odd_sz (z8r he).2.2.1) hq) _ h1
  have hcn2 : cntT (z0p id (fun q => q.setHead l) x.u) <= 1000000 := by
   rw [zj4 (f := fun q => q.setHead l) fun q => ⟨rfl, rfl⟩]; exact h2
  have hmade : (id :: z20 id x.u).length <= 1000000 := by simp; omega
  have c3 := z78 x h4 (z0p id (fun q => q.setHead l) x.u) hsz hcn2 (id :: z20 id x.u) hmade n
  rw [if_pos he] at c1
  rw [he] at c1 ⊢
  generalize z0p id (fun q => q.setHead l) x.u = u' at c1 c3 ⊢

  repeat' (first | refine zqj ?_ | ((first | refine zqh fun K J => ?_ | refine zqe (by decide +kernel) fun K J => ?_ | refine zqs (c1) ?_ | refine zqt (c2) ?_ | refine zqt (c3) ?_); (simp (disch := omega) only [go_sem, Nat.reduceBEq, ↓reduceIte, reduceCtorEq, Nat.reduceAdd, Nat.reduceLeDiff, z1l, z0s, z0n, z07])) | ((refine zqd _ rfl (fun hc => ?_) (fun hc => ?_)) <;> (first | (cases hc; done) | ((try simp only [] at hc); (try omega)))) | refine zqb ?_ | refine zqn ?_ | refine zqu (by (simp (disch := omega) only [go_sem, Nat.reduceBEq, ↓reduceIte, Nat.reduceAdd, Nat.reduceLeDiff]); rfl) rfl ?_ | (refine J _ ?_; clear J K))
  exact z0a (by simp only [pureD, pureD.pureL, z0d, z0t, z1h, Bool.and_self]) (Le.refl _)
 ·rw [if_neg he] at c1
  generalize z1k x.u id l = e at c1 he ⊢
  repeat' (first | refine zqj ?_ | ((first | refine zqh fun K J => ?_ | refine zqs (c1) ?_); (simp (disch := omega) only [go_sem, Nat.reduceBEq, ↓reduceIte, reduceCtorEq, Nat.reduceAdd, Nat.reduceLeDiff, z1l, z0s, z0n, z07])) | ((refine zqd _ rfl (fun hc => ?_) (fun hc => ?_)) <;> (((try simp only [z0b] at hc); (try omega)))) | refine zqg ?_ | refine zqu (by (simp (disch := omega) only [go_sem, Nat.reduceBEq, ↓reduceIte, Nat.reduceAdd, Nat.reduceLeDiff]); rfl) rfl ?_ | (refine J _ ?_; clear J K))
  exact z0a (by simp only [pureD, pureD.pureL, z0d, z0t, z1h, Bool.and_self]) (by unfold z5p; rw [if_neg he]; exact Le.refl _)
theorem znc (hx : VnSz x) (id : Idv) (l : List Wd) (hl2 : l.length <= 1000000) (hw : ∀ w ∈ l, w.text.size <= maxLen) (n : Int) :
  PC prog 58 [z1l x, z0n id, z0r l, .bool false, .int .i64 n] (.tup [z1l (z5p (z1k x.u id l) x (z0p id (fun q => q.setWords l) x.u) (id :: z20 id x.u) n), .int .i64 (z1k x.u id l)]) := by
 obtain ⟨h1, h2, h3, h4⟩ := hx
 have c1 := zm9 x.u h1 h2 (by omega) id l hl2 hw false
 have c2 := zd3 x.u h1 (by omega) id
 have hl := z4v id x.u
 rw [z0m, z0f x.u] at c2
 rw [show (fun q => if false = true then q.setHead l else q.setWords l) = (fun q : T => q.setWords l) from rfl] at c1
 have hcu := z0f x.u
 refine z1g 2 (by simp only [pureD.pureL, z0z, z0d, pureD, Bool.and_self]; rfl) (by simp only [pureD, pureD.pureL, z0z, Bool.and_self]) (z14 [] func58 rfl (by decide +kernel) rfl ?_)
 show awp _ _ (Code.seq _ _) _ _
 rw [show Tryz.f58.results.toList = [.cell 10 49, .tmp 11] from rfl]
 rw [z0m, hcu] at c1
 by_cases he : z1k x.u id l = 0
 ·have hsz : szB (z0p id (fun q => q.setWords l) x.u) = true := zne (fun q hq _ => zog hl2 (odd_sz (z8r he).2.2.1) hq) _ h1
  have hcn2 : cntT (z0p id (fun q => q.setWords l) x.u) <= 1000000 := by
   rw [zj4 (f := fun q => q.setWords l) fun q => ⟨rfl, rfl⟩]; exact h2
  have hmade : (id :: z20 id x.u).length <= 1000000 := by simp; omega
  have c3 := z78 x h4 (z0p id (fun q => q.setWords l) x.u) hsz hcn2 (id :: z20 id x.u) hmade n
  rw [if_pos he] at c1
  rw [he] at c1 ⊢
  generalize z0p id (fun q => q.setWords l) x.u = u' at c1 c3 ⊢

  repeat' (first | refine zqj ?_ | ((first | refine zqh fun K J => ?_ | refine zqe (by decide +kernel) fun K J => ?_ | refine zqs (c1) ?_ | refine zqt (c2) ?_ | refine zqt (c3) ?_); (simp (disch := omega) only [go_sem, Nat.reduceBEq, ↓reduceIte, reduceCtorEq, Nat.reduceAdd, Nat.reduceLeDiff, z1l, z0s, z0n, z07])) | ((refine zqd _ rfl (fun hc => ?_) (fun hc => ?_)) <;> (first | (cases hc; done) | ((try simp only [] at hc); (try omega)))) | refine zqb ?_ | refine zqn ?_ | refine zqu (by (simp (disch := omega) only [go_sem, Nat.reduceBEq, ↓reduceIte, Nat.reduceAdd, Nat.reduceLeDiff]); rfl) rfl ?_ | (refine J _ ?_; clear J K))
  exact z0a (by simp only [pureD, pureD.pureL, z0d, z0t, z1h, Bool.and_self]) (Le.refl _)
 ·rw [if_neg he] at c1
  generalize z1k x.u id l = e at c1 he ⊢
  repeat' (first | refine zqj ?_ | ((first | refine zqh fun K J => ?_ | refine zqs (c1) ?_); (simp (disch := omega) only [go_sem, Nat.reduceBEq, ↓reduceIte, reduceCtorEq, Nat.reduceAdd, Nat.reduceLeDiff, z1l, z0s, z0n, z07])) | ((refine zqd _ rfl (fun hc => ?_) (fun hc => ?_)) <;> (((try simp only [z0b] at hc); (try omega)))) | refine zqg ?_ | refine zqu (by (simp (disch := omega) only [go_sem, Nat.reduceBEq, ↓reduceIte, Nat.reduceAdd, Nat.reduceLeDiff]); rfl) rfl ?_ | (refine J _ ?_; clear J K))
  exact z0a (by simp only [pureD, pureD.pureL, z0d, z0t, z1h, Bool.and_self]) (by unfold z5p; rw [if_neg he]; exact Le.refl _)
theorem zud (hx : VnSz x) (id parent : Idv) (i : Int) (n : Int) :
  PC prog 56 [z1l x, z0n id, z0n parent, .int .i64 i, .int .i64 n] (.tup [z1l (z5p (z33 x.u id parent i) x (z0p parent (z40 i.toNat (z05 id x.u).1) (z0i id x.u)) (z20 id x.u ++ parent :: z20 parent x.u) n), .int .i64 (z33 x.u id parent i)]) := by
 obtain ⟨h1, h2, h3, h4⟩ := hx
 have c1 := pc_MoveR x.u h1 h2 (by omega) id parent i
 have c2 := zd3 x.u h1 (by omega) parent
 have hl := z4v parent x.u
 have hl2 := z4v id x.u
 have hcu := z0f x.u
 refine z1g 2 (by simp only [pureD.pureL, z0z, pureD, Bool.and_self]; rfl) (by simp only [pureD, pureD.pureL, z0z, Bool.and_self]) (z14 [8000000, 4000032, 3000027, 3000028, 3000030, 3000031, 3000034, 3000035, 5000036, 2000037, 5000039] func56 rfl (by decide +kernel) rfl ?_)
 show awp _ _ (Code.seq _ _) _ _
 rw [show Tryz.f56.results.toList = [.cell 10 49, .tmp 11] from rfl]
 have hm := sz_moveE h1 id parent i
 by_cases he : z33 x.u id parent i = 0
 ·obtain ⟨m1, m2, m3, m4, m5, m6⟩ := za3 he
  have c4 := zr6 id x.u h1 (by omega)
  obtain ⟨u2, q1, q2, q3, q4, _⟩ := zd2 (z17 m1) m4 m2
  have c4 := c4.2 (by rw [q3]; simp)
  rw [z0m, hcu] at c1 c2 c4
  rw [if_pos he] at hm c1
  have hcn2 : cntT (z0p parent (z40 i.toNat (z05 id x.u).1) (z0i id x.u)) <= 1000000 := by
   obtain ⟨_, _, m, hmi, _⟩ := z3p m6
   have he2 := he
   rw [hmi] at he2
   obtain ⟨_, _, _, _, _, _, _, hcc⟩ := zsh he2
   rw [hmi]
   show cntT (z0p parent (z40 m (z05 id x.u).1) (z0i id x.u)) <= _
   omega
  have c3 := z78 x h4 _ hm hcn2 (z20 id x.u ++ parent :: z20 parent x.u) (by simp; omega) n
  rw [he] at c1 ⊢
  generalize z0p parent (z40 i.toNat (z05 id x.u).1) (z0i id x.u) = u' at c1 c3 ⊢
  obtain ⟨M, hM⟩ : ∃ M, M = z20 id x.u ++ parent :: z20 parent x.u := ⟨_, rfl⟩
  have hp1 := z2d (f := z07) (fun _ => rfl) (z20 id x.u)
  have hp2 := z2d (f := z07) (fun _ => rfl) (z20 parent x.u)
  have hgd : z31 true 3 ((z20 id x.u).length + ((z20 parent x.u).length + 1)) ((z20 id x.u).flatMap z07 ++ D.int .i64 parent.act :: D.int .i64 parent.item :: D.int .i64 parent.n :: (z20 parent x.u).flatMap z07) = M.map z0n := by
   have h := zax (f := z07) (sz := 3) (fun _ => rfl) M
   rw [hM] at h ⊢
   rw [List.flatMap_append, List.length_append] at h
   exact h
  rw [<- hM] at c3 ⊢
  repeat' (first | refine zqj ?_ | ((first | refine zqh fun K J => ?_ | refine zqe (by decide +kernel) fun K J => ?_ | refine zqs (c1) ?_ | refine zqt (c2) ?_ | refine z94 (c4) rfl rfl rfl ?_ | refine zqt (c3) ?_); (simp (disch := omega) only [go_sem, Nat.reduceBEq, Nat.reduceEqDiff, ↓reduceIte, reduceCtorEq, Nat.reduceAdd, Nat.reduceLeDiff, Nat.reduceLT, z1l, z0s, z0n, z07, z22, z63, hp1, hp2, hgd])) | ((refine zqd _ rfl (fun hc => ?_) (fun hc => ?_)) <;> (first | (cases hc; done) | ((try simp only [] at hc); (try omega)))) | refine zqb ?_ | refine zqn ?_ | refine zqu (by (simp (disch := omega) only [go_sem, Nat.reduceBEq, ↓reduceIte, Nat.reduceAdd, Nat.reduceLeDiff]); rfl) rfl ?_ | (refine J _ ?_; clear J K))
  exact z0a (by simp only [pureD, pureD.pureL, z0d, z0t, z1h, Bool.and_self]) (Le.refl _)
 ·rw [if_neg he] at c1
  rw [z0m, hcu] at c1
  generalize z33 x.u id parent i = e at c1 he ⊢
  repeat' (first | refine zqj ?_ | ((first | refine zqh fun K J => ?_ | refine zqs (c1) ?_); (simp (disch := omega) only [go_sem, Nat.reduceBEq, ↓reduceIte, reduceCtorEq, Nat.reduceAdd, Nat.reduceLeDiff, z1l, z0s, z0n, z07])) | ((refine zqd _ rfl (fun hc => ?_) (fun hc => ?_)) <;> (((try simp only [z0b] at hc); (try omega)))) | refine zqg ?_ | refine zqu (by (simp (disch := omega) only [go_sem, Nat.reduceBEq, ↓reduceIte, Nat.reduceAdd, Nat.reduceLeDiff]); rfl) rfl ?_ | (refine J _ ?_; clear J K))
  exact z0a (by simp only [pureD, pureD.pureL, z0d, z0t, z1h, Bool.and_self]) (by unfold z5p; rw [if_neg he]; exact Le.refl _)
end
end
section
open Abs Facts Tr
attribute [local irreducible] awp
set_option maxRecDepth 100000
theorem z9w {st : St} {q e e2 k k2 : Nat} {cs cs2 : List D} (h : st.H q = some (.row e k cs)) : z9p st (z0k st.H q (some (.row e2 k2 cs2))) st.nx := by
 refine ⟨Nat.le_refl _, fun id => ⟨fun _ e0 c0 h0 => ?_, fun hlt e0 c0 h0 => ?_⟩⟩
 ·unfold z0k
  split
  ·rename_i e1; rw [e1, h] at h0; cases h0
  ·exact h0
 ·unfold z0k at h0
  split at h0
  ·cases h0
  ·exact ⟨hlt, h0⟩
theorem zq1 {at_ : Nat} {x w : V} (h : at_ <= w.kids.length) : rowV (zp8 at_ x w) = .row 75 (w.kids.length + 1) (((w.kids.take at_).map fun v => .ptr v.num 0) ++ [.ptr x.num 0] ++ ((w.kids.drop at_).map fun v => .ptr v.num 0)) := by
 unfold rowV zp8
 have hl : (w.kids.take at_ ++ x :: w.kids.drop at_).length = w.kids.length + 1 := by
  rw [List.length_append, List.length_cons, List.length_take, List.length_drop]; omega
 rw [hl]
 simp
theorem zwv {at_ : Nat} {x w : V} (h : at_ <= w.kids.length) : (zp8 at_ x w).length = w.kids.length + 1 := by
 unfold zp8
 rw [List.length_append, List.length_cons, List.length_take, List.length_drop]; omega
section
variable {lo : Nat} {H0 : HM} {w : V}
theorem do_rel {b : Nat} {name : ByteArray} (hb : H0 b = some (.box 9 [.str name])) (hbl : b < lo) : DoOK 100 [.ptr b 0] lo H0 (fldE fun q => q.setLabel name) w := by
 intro m H n c r hp h0
 have hbx := hp.box
 have hbb := (h0 b hbl).trans hb
 have hmc := hp.mc
 have hcn := hp.cn
 have hlom := hp.lom
 have k1 : (b == c) = false := za1 (by omega)
 refine (z14 [] func100 rfl (by decide +kernel) rfl ?_)
 show awp _ _ (Code.region _ _ _) _ _
 repeat' (first | ((refine zqr fun K J => ?_); (simp (disch := omega) only [go_sem, Nat.reduceBEq, ↓reduceIte, reduceCtorEq, Nat.reduceAdd, Nat.reduceLeDiff, Nat.reduceLT, hbx, hbb, nodeB])) | refine zqu (by simp only [go_sem]; rfl) rfl ?_ | (refine J _ ?_; clear J K))
 (simp (disch := omega) only [go_sem])
 exact ⟨rfl, rfl⟩
theorem do_words {b : Nat} {l : List Wd} (hl : l.length <= 1000000) (hb : H0 b = some (.box 24 [z0r l])) (hbl : b < lo) : DoOK 91 [.ptr b 0] lo H0 (fldE fun q => q.setWords l) w := by
 intro m H n c r hp h0
 have hbx := hp.box
 have hbb := (h0 b hbl).trans hb
 have hmc := hp.mc
 have hcn := hp.cn
 have hlom := hp.lom
 have c1 := z6a l (by omega)
 refine (z14 [] func91 rfl (by decide +kernel) rfl ?_)
 show awp _ _ (Code.region _ _ _) _ _
 repeat' (first | ((first | refine zqr fun K J => ?_ | refine zqs (c1) ?_); (simp (disch := omega) only [go_sem, Nat.reduceBEq, ↓reduceIte, reduceCtorEq, Nat.reduceAdd, hbx, hbb, nodeB])) | refine zqu (by simp only [go_sem]; rfl) rfl ?_ | (refine J _ ?_; clear J K))
 (simp (disch := omega) only [go_sem])
 exact ⟨rfl, rfl⟩
theorem do_head {b : Nat} {l : List Wd} (hl : l.length <= 1000000) (hb : H0 b = some (.box 24 [z0r l])) (hbl : b < lo) : DoOK 101 [.ptr b 0] lo H0 (fldE fun q => q.setHead l) w := by
 intro m H n c r hp h0
 have hbx := hp.box
 have hbb := (h0 b hbl).trans hb
 have hmc := hp.mc
 have hcn := hp.cn
 have hlom := hp.lom
 have c1 := z6a l (by omega)
 refine (z14 [] func101 rfl (by decide +kernel) rfl ?_)
 show awp _ _ (Code.region _ _ _) _ _
 repeat' (first | ((first | refine zqr fun K J => ?_ | refine zqs (c1) ?_); (simp (disch := omega) only [go_sem, Nat.reduceBEq, ↓reduceIte, reduceCtorEq, Nat.reduceAdd, hbx, hbb, nodeB])) | refine zqu (by simp only [go_sem]; rfl) rfl ?_ | (refine J _ ?_; clear J K))
 (simp (disch := omega) only [go_sem])
 exact ⟨rfl, rfl⟩
theorem do_out {b : Nat} {i : Idv} (hb : H0 b = some (idB i)) (hbl : b < lo) (hk : ∃ k ∈ w.kids, k.own.id = i) (hl : w.kids.length <= 1000000) : DoOK 151 [.ptr b 0] lo H0 (outE i) w := by
 intro m H n c r hp h0
 have hbx := hp.box
 have hbb := (h0 b hbl).trans hb
 have hmc := hp.mc
 have hcn := hp.cn
 have hlom := hp.lom
 obtain ⟨q, rfl⟩ : ∃ q, r = some q := by
  cases hr : r with
  | none =>
   obtain ⟨k, hk, _⟩ := hk
   rw [hp.nor hr] at hk; cases hk
  | some q => exact ⟨q, rfl⟩
 obtain ⟨h1, h2, h3⟩ := hp.row q rfl
 have hdel := zrr (nx := n) h3 (by omega) hl hbb (by omega) (by omega) (fun k hk => by
  obtain ⟨g1, g2⟩ := hp.kids k hk
  have := g2 _ (z4a k)
  exact ⟨((z29 _ _).1 g1).1, by omega, by omega⟩) hk
 have k1 : (c == n) = false := za1 (by omega)
 have k2 : (c == q) = false := za1 (by omega)
 refine (z14 [] func151 rfl (by decide +kernel) rfl ?_)
 show awp _ _ (Code.region _ _ _) _ _
 repeat' (((refine zqr fun K J => ?_); (simp (disch := omega) only [go_sem, Nat.reduceBEq, ↓reduceIte, reduceCtorEq, Nat.reduceAdd, hbx, nodeB, kdR])))
 refine z1m (hdel.mono fun r' H' n' ⟨e1, e2, e3⟩ => ?_)
 subst e1; subst e2; subst e3
 (try (simp (disch := omega) only [go_sem, Nat.reduceBEq, ↓reduceIte, reduceCtorEq, Nat.reduceAdd, Nat.reduceLeDiff, Nat.reduceLT, hbx, nodeB, kdR, k1, k2])); repeat' (first | refine zqu (by simp only [go_sem]; rfl) rfl ?_ | (refine J _ ?_; clear J K))
 (simp (disch := omega) only [go_sem])
 exact ⟨rfl, rfl⟩
theorem do_mov {a b at_ : Nat} {x : V} (ha : H0 a = some (.box 3 [.int .i64 at_])) (hal : a < lo) (hb : H0 b = some (.box 75 [.ptr x.num 0])) (hbl : b < lo) (hx : Stand H0 x) (hux : Under lo x) (hat : at_ <= w.kids.length) (hl : w.kids.length <= 1000000) :
  DoOK 99 [.ptr a 0, .ptr b 0] lo H0 (movE at_ x) w := by
 intro m H n c r hp h0
 obtain ⟨a1, a2, a3, a4, a5, a6, a7, a8⟩ := zar hp
 have hmc := hp.mc
 have hcn := hp.cn
 have hlom := hp.lom
 have hbx := hp.box
 refine zak func99 rfl (by decide +kernel) (by simp [ntmps99]) ?_
 obtain ⟨o, ho⟩ : ∃ o, o = zdc w c r H n := ⟨_, rfl⟩
 rw [<- ho] at a1 a2 a3 a4 a5 a6 a7 a8
 have hseal : SealTo prog (st0 [.ptr c 0, .ptr a 0, .ptr b 0] H n) (st0 [.ptr c 0, .ptr a 0, .ptr b 0] o.2.1 o.2.2) := by
  cases hr : r with
  | none =>
   rw [hr] at ho hbx
   have h1 : (st0 [.ptr c 0, .ptr a 0, .ptr b 0] H n).H c = some (.box 117 [.int .i64 w.own.id.act, .int .i64 w.own.id.item, .int .i64 w.own.id.n, .int .i64 w.own.kind, .str w.own.label, z0r w.own.head, z0r w.own.words, .nil, .nil]) := hbx
   have h2 := z71 (P := prog) (off := 8) 75 h1 rfl
   rw [ho]
   exact h2
  | some q =>
   rw [hr] at ho
   rw [ho]
   exact SealTo.refl _
 refine Sem.seal _ hseal ?_
 have hba := ((a5 a (by omega)).trans (h0 a hal)).trans ha
 have hbb := ((a5 b (by omega)).trans (h0 b hbl)).trans hb
 obtain ⟨q, H1, n1⟩ := o
 simp only at a1 a2 a3 a4 a5 a6 a7 a8 hba hbb ⊢
 refine Sem.walk (own := [3000008, 3000009, 3000010, 4000012]) z8j (by decide +kernel) ?_
 show awp _ _ (Code.region _ _ _) _ _
 unfold rowV at a7
 have k1 : (c == q) = false := za1 (by omega)
 repeat' (((refine zqq (by decide +kernel) fun K J => ?_); (simp (disch := omega) only [go_sem, Nat.reduceBEq, Nat.reduceEqDiff, ↓reduceIte, reduceCtorEq, Nat.reduceAdd, Nat.reduceLeDiff, a6, hba, hbb, nodeB])))
 refine zfa (zi9 (i := at_) (nn := true) (els := [.ptr x.num 0]) a7 hat (by simp) rfl (by simp; omega)) rfl rfl (z9w a7) ?_
 (try (simp (disch := omega) only [go_sem, Nat.reduceBEq, Nat.reduceEqDiff, ↓reduceIte, reduceCtorEq, Nat.reduceAdd, Nat.reduceLeDiff, Nat.reduceLT, a6, k1, nodeB])); repeat' (first | refine zqu (by simp only [go_sem]; rfl) rfl ?_ | (refine J _ ?_; clear J K))
 unfold movE rowE
 rw [<- ho, zq1 hat, zwv hat]
 exact ⟨rfl, rfl, rfl⟩
theorem do_ins {a b at_ : Nat} {t : T} (ht : szB t = true) (ha : H0 a = some (.box 3 [.int .i64 at_])) (hal : a < lo) (hb : H0 b = some (unitB t)) (hbl : b < lo) (hat : at_ <= w.kids.length) (hl : w.kids.length <= 1000000) :
  DoOK 96 [.ptr a 0, .ptr b 0] lo H0 (insE at_ t) w := by
 intro m H n c r hp h0
 obtain ⟨a1, a2, a3, a4, a5, a6, a7, a8⟩ := zar hp
 have hmc := hp.mc
 have hcn := hp.cn
 have hlom := hp.lom
 have hbx := hp.box
 refine zak func96 rfl (by decide +kernel) (by simp [ntmps96]) ?_
 obtain ⟨o, ho⟩ : ∃ o, o = zdc w c r H n := ⟨_, rfl⟩
 rw [<- ho] at a1 a2 a3 a4 a5 a6 a7 a8
 have hseal : SealTo prog (st0 [.ptr c 0, .ptr a 0, .ptr b 0] H n) (st0 [.ptr c 0, .ptr a 0, .ptr b 0] o.2.1 o.2.2) := by
  cases hr : r with
  | none =>
   rw [hr] at ho hbx
   have h1 : (st0 [.ptr c 0, .ptr a 0, .ptr b 0] H n).H c = some (.box 117 [.int .i64 w.own.id.act, .int .i64 w.own.id.item, .int .i64 w.own.id.n, .int .i64 w.own.kind, .str w.own.label, z0r w.own.head, z0r w.own.words, .nil, .nil]) := hbx
   have h2 := z71 (P := prog) (off := 8) 75 h1 rfl
   rw [ho]
   exact h2
  | some q =>
   rw [hr] at ho
   rw [ho]
   exact SealTo.refl _
 refine Sem.seal _ hseal ?_
 have hba := ((a5 a (by omega)).trans (h0 a hal)).trans ha
 have hbb := ((a5 b (by omega)).trans (h0 b hbl)).trans hb
 have hgr := z7a t o.2.1 o.2.2
 have hgn : (z67 t o.2.1 o.2.2).1.num = o.2.2 + 1 := by rw [zat]; rfl
 have hcg := zrb t ht o.2.1 o.2.2
 unfold insE rowE
 simp only
 rw [<- ho]
 obtain ⟨q, H1, n1⟩ := o
 simp only at a1 a2 a3 a4 a5 a6 a7 a8 hba hbb hgr hgn hcg ⊢
 generalize z67 t H1 n1 = g at hgr hgn hcg ⊢
 obtain ⟨g1, g2, g3, g4, g5, g6, g7⟩ := hgr
 refine Sem.walk (own := [3000008, 3000009, 3000010, 4000011, 10000011, 4000013]) z8j (by decide +kernel) ?_
 show awp _ _ (Code.region _ _ _) _ _
 unfold rowV at a7
 have k1 : (c == q) = false := za1 (by omega)
 have f1 := (g3 c (by omega)).trans a6
 have f2 := (g3 q (by omega)).trans a7
 repeat' (((refine zqq (by decide +kernel) fun K J => ?_); (simp (disch := omega) only [go_sem, Nat.reduceBEq, Nat.reduceEqDiff, ↓reduceIte, reduceCtorEq, Nat.reduceAdd, Nat.reduceLeDiff, a6, hba, hbb, nodeB, unitB])))
 refine z4o hcg rfl rfl rfl ⟨by show n1 <= _; omega, g3⟩ ?_
 (try (simp (disch := omega) only [go_sem, Nat.reduceBEq, ↓reduceIte, reduceCtorEq, Nat.reduceAdd, Nat.reduceLeDiff])); repeat' skip
 refine zfa (zi9 (i := at_) (nn := true) (els := [.ptr (n1 + 1) 0]) f2 hat (by simp) rfl (by simp; omega)) rfl rfl (z9w f2) ?_
 (try (simp (disch := omega) only [go_sem, Nat.reduceBEq, Nat.reduceEqDiff, ↓reduceIte, reduceCtorEq, Nat.reduceAdd, Nat.reduceLeDiff, Nat.reduceLT, f1, k1, nodeB])); repeat' (first | refine zqu (by simp only [go_sem]; rfl) rfl ?_ | (refine J _ ?_; clear J K))
 rw [zq1 hat, zwv hat, hgn]
 exact ⟨rfl, rfl, rfl⟩
end
end
section
open Abs Facts Tr
attribute [local irreducible] awp
set_option maxRecDepth 100000
def Det (f : FuncId) (ds : List D) (H : HM) (nx : Nat) (F : D × HM × Nat -> Prop) : Prop := ∃ o : D × HM × Nat, AC prog f ds H nx (fun r H' n' => r = o.1 /\ H' = o.2.1 /\ n' = o.2.2) /\ F o
theorem Det.mono {f : FuncId} {ds : List D} {H : HM} {nx : Nat} {F G : D × HM × Nat -> Prop} (h : Det f ds H nx F) (hFG : ∀ o, F o -> G o) : Det f ds H nx G := by
 obtain ⟨o, h1, h2⟩ := h
 exact ⟨o, h1, hFG o h2⟩
section
variable {own : List Nat} {n : FuncId} {args cap : List D} {g : List Oper -> (St -> Prop) -> St -> Prop} {rest : List Oper} {K : St -> Prop} {st : St} {dst : Option Nat} {F : D × HM × Nat -> Prop}
theorem zcd (h : Det n (args ++ cap) st.H st.nx F) (hk : ∀ o, F o -> g rest K ((st.withH o.2.1 o.2.2).put dst o.1)) : zo0 prog (.fn n cap) args g rest K st dst := by
 obtain ⟨o, h1, h2⟩ := h
 exact z1m (h1.mono fun r H' n' ⟨e1, e2, e3⟩ => by subst e1; subst e2; subst e3; exact hk o h2)
theorem zwd (h : Det n (args ++ cap) st.H st.nx F) (h0 : z0o 5000000 own dst = false) (hm : z0o 4000000 own dst = true) (hN : z0o 10000000 own dst = true) (hs : ∀ o, F o -> zc0 st o.2.1 o.2.2) (hk : ∀ o, F o -> g rest K ((st.withH o.2.1 o.2.2).put dst o.1)) (ht : tcM own dst = none := by rfl) : zli prog own (.fn n cap) args g rest K st dst := by
 obtain ⟨o, h1, h2⟩ := h
 exact z4o h1 h0 hm hN (hs o h2) (hk o h2) ht
end
def treeB (c : D) : HObj := .box 78 [c]
structure AtOK (e : Int) (lo : Nat) (id : Idv) (Q : V -> V -> Prop) (v : V) (H : HM) (n : Nat) (o : D × HM × Nat) : Prop where
 le : n <= o.2.2
 agree : Agree n H o.2.1
 shape : (∃ t, o.1 = .tup [.ptr t 0, .int .i64 e]) \/ o.1 = .tup [.nptr, .int .i64 e]
 bad : e ≠ 0 -> o.1 = .tup [.nptr, .int .i64 e]
 good : e = 0 -> id ∈ idsT (treeV v) -> ∃ v' t, o.1 = .tup [.ptr t 0, .int .i64 0] /\ n <= t /\ t < o.2.2 /\ o.2.1 t = some (treeB (.ptr v'.num 0)) /\ Chg n id Q v v' /\ Stand o.2.1 v' /\ Under o.2.2 v'
theorem zg5 {e : Int} {g : FuncId} {cap : List D} {lo tb : Nat} {id : Idv} {E : zsm} {Q : V -> V -> Prop} {H0 H : HM} {v : V} {n : Nat} (htb : tb < n) (hH : H tb = some (treeB (.ptr v.num 0))) (hs : szB (treeV v) = true) (hE : e = 0 -> ∀ w ∈ nodesV v, w.own.id = id -> DoOK g cap lo H0 E w /\ zo4 lo H0 E Q w)
  (hlo : lo <= n) (h0 : Agree lo H0 H) (hst : Stand H v) (hu : Under lo v) : Det 90 [.ptr tb 0, .int .i64 e, z0n id, .fn g cap] H n (AtOK e lo id Q v H n) := by
 have k1 : (tb == n) = false := za1 (by omega)
 have hag : Agree n H (z0k H n (some (idB id))) := fun j hj => z01 _ (by omega)
 by_cases he : e = 0
 ·subst he
  have hst1 : Stand (z0k H n (some (idB id))) v := Stand.agree (n := lo) (fun j hj => hag j (by omega)) v hu hst
  have h01 : Agree lo H0 (z0k H n (some (idB id))) := fun j hj => (hag j (by omega)).trans (h0 j hj)
  have hcg := zrw (g := g) (cap := cap) (id := id) (E := E) (Q := Q) (H0 := H0) v hs (hE rfl) (z0k H n (some (idB id))) (n + 1) (by omega) h01 hst1 hu
  have hf := zln (id := id) (E := E) (Q := Q) (H0 := H0) v (fun w hw e => (hE rfl w hw e).2) (z0k H n (some (idB id))) (n + 1) (by omega) h01 hst1 hu
  generalize zo3 id E v (z0k H n (some (idB id))) (n + 1) = o at hcg hf
  have hle := hf.le
  refine ⟨(.tup [.ptr o.2.2 0, .int .i64 0], z0k o.2.1 o.2.2 (some (treeB (ptrO o.1))), o.2.2 + 1), ?_, ⟨by simp only; omega, fun j hj => ?_, .inl ⟨_, rfl⟩, fun h => absurd rfl h, fun _ hin => ?_⟩⟩
  ·refine (z14 [3000016, 3000017, 4000019, 10000019] func90 rfl (by decide +kernel) rfl ?_)
   show awp _ _ (Code.seq _ _) _ _
   unfold idB at hcg hf
   repeat' (first | refine zqj ?_ | ((first | refine zqh fun K J => ?_ | refine zqe (by decide +kernel) fun K J => ?_); (simp (disch := omega) only [go_sem, Nat.reduceBEq, Nat.reduceEqDiff, ↓reduceIte, reduceCtorEq, Nat.reduceAdd, Nat.reduceLeDiff, hH, k1, treeB, z0n, z07])) | ((refine zqd _ rfl (fun hc => ?_) (fun hc => ?_)) <;> (first | (cases hc; done) | ((try simp only [] at hc); (try omega)))) | refine zqb ?_ | (refine J _ ?_; clear J K))
   refine z4o hcg rfl rfl rfl ⟨hle, hf.agree⟩ ?_
   obtain ⟨x, H1, n1⟩ := o
   cases x with
   | none =>
    unfold ptrO
    (try (simp (disch := omega) only [go_sem, Nat.reduceBEq, ↓reduceIte, Nat.reduceLeDiff])); repeat' (first | refine zqn ?_ | refine zqu (by simp only [go_sem]; rfl) rfl ?_ | (refine J _ ?_; clear J K))
    (simp (disch := omega) only [go_sem, Nat.reduceBEq])
    rfl
   | some x =>
    unfold ptrO
    (try (simp (disch := omega) only [go_sem, Nat.reduceBEq, ↓reduceIte, Nat.reduceLeDiff])); repeat' (first | refine zqn ?_ | refine zqu (by simp only [go_sem]; rfl) rfl ?_ | (refine J _ ?_; clear J K))
    (simp (disch := omega) only [go_sem, Nat.reduceBEq])
    rfl
  ·simp only
   rw [z01 _ (by omega), hf.agree j (by omega), hag j hj]
  ·obtain ⟨v', e1, hch, hs', hu', _⟩ := hf.yes hin
   have hs2 : Stand (z0k o.2.1 o.2.2 (some (treeB (ptrO o.1)))) v' := Stand.on v' (fun j hj => z01 _ (by have := hu' j hj; omega)) hs'
   refine ⟨v', o.2.2, rfl, by omega, by simp, ?_, Chg.mono (by omega) (fun _ _ _ h => h) hch, hs2, hu'.le (by simp)⟩
   simp only
   rw [z28, e1]; rfl
 ·refine ⟨(.tup [.nptr, .int .i64 e], z0k H n (some (idB id)), n + 1), ?_, ⟨by simp, hag, .inr rfl, fun _ => rfl, fun h => absurd h he⟩⟩
  refine (z14 [3000016, 3000017, 4000019, 10000019] func90 rfl (by decide +kernel) rfl ?_)
  show awp _ _ (Code.seq _ _) _ _
  repeat' (first | refine zqj ?_ | ((refine zqh fun K J => ?_); (simp (disch := omega) only [go_sem, Nat.reduceBEq, ↓reduceIte, z0n, z07])) | ((refine zqd _ rfl (fun hc => ?_) (fun hc => ?_)) <;> (((try simp only [z0b] at hc); (try omega)))) | refine zqg ?_ | refine zqu (by simp only [go_sem]; rfl) rfl ?_ | (refine J _ ?_; clear J K))
  (simp (disch := omega) only [go_sem, Nat.reduceBEq])
  rfl
end
section
open Abs Facts Tr
attribute [local irreducible] awp
set_option maxRecDepth 100000
section
variable {H : HM} {n tb : Nat} {v : V}
theorem zgg (hs : szB (treeV v) = true) (htb : tb < n) (hH : H tb = some (treeB (.ptr v.num 0))) (hu : Under n v) (hst : Stand H v) : RC prog 14 [.ptr tb 0] H n (z0m (treeV v)) := by
 have k1 : (tb == n) = false := za1 (by omega)
 have c1 : ∀ o : Option HObj, RC prog 41 [.ptr v.num 0] (z0k H n o) (n + 1) (z0m (treeV v)) := fun o =>
  rc_tree v hs _ _ (hu.le (by omega)) (Stand.agree (fun j hj => z01 _ (by omega)) v hu hst)
 have hcu := z0f (treeV v)
 refine zjn (z02 _) (z14 [] func14 rfl (by decide +kernel) rfl ?_)
 show awp _ _ (Code.seq _ _) _ _
 rw [show Tryz.f14.results.toList = [.cell 2 27] from rfl]
 repeat' (first | ((first | refine zqh fun K J => ?_ | refine z1d (c1 _) ?_); (simp (disch := omega) only [go_sem, Nat.reduceBEq, ↓reduceIte, reduceCtorEq, Nat.reduceAdd, Nat.reduceLeDiff, hH, k1, treeB])) | refine zqn ?_ | refine zqu (by (simp (disch := omega) only [go_sem, Nat.reduceBEq, ↓reduceIte, Nat.reduceLeDiff]); rfl) rfl ?_ | (refine J _ ?_; clear J K))
 (simp (disch := omega) only [go_sem, z0m])
 exact fun j hj => by simp (disch := omega) only [z3m]
theorem sz_node : ∀ v : V, szB (treeV v) = true -> ∀ w ∈ nodesV v, szB (treeV w) = true := by
 refine zdg fun v ih hs w hw => ?_
 rw [z3s, List.mem_cons] at hw
 rcases hw with rfl | hw
 ·exact hs
 ·obtain ⟨k, hk, hw⟩ := List.mem_flatMap.1 hw
  exact ih k hk (zlr hs hk) w hw
def cntS (_ : V) : HObj -> HObj
 | .box e [.int .i64 n] => .box e [.int .i64 (IntKind.i64.wrap (n + 1))]
 | o => o
theorem cnt_fold (l : List V) (k : Nat) (h : k + l.length <= 1000000000) : zce cntS l (.box 3 [.int .i64 (k : Nat)]) = .box 3 [.int .i64 ((k + l.length : Nat))] := by
 induction l generalizing k with
 | nil => rfl
 | cons w l ih =>
  simp only [List.length_cons] at h
  show zce cntS l (.box 3 [.int .i64 (IntKind.i64.wrap ((k : Int) + 1))]) = _
  rw [zsq (by omega), show ((k : Int) + 1) = ((k + 1 : Nat) : Int) by omega, ih (k + 1) (by omega)]
  simp only [List.length_cons]
  congr 3
  congr 1
  omega
def zme (o : HObj) : Prop := ∃ k, o = .box 3 [.int .i64 k]
theorem zmf (w : V) (o : HObj) (h : zme o) : zme (cntS w o) := by
 obtain ⟨k, rfl⟩ := h
 exact ⟨_, rfl⟩
theorem ac_Len1 {H : HM} {n k : Nat} {w : V} {o : HObj} (hkn : k < n) (hk : H k = some o) (ho : zme o) : AC prog 43 [.ptr w.num 0, .ptr k 0] H n fun r H' nx' => r = .tup [] /\ H' = z0k H k (some (cntS w o)) /\ nx' = n := by
 obtain ⟨i, rfl⟩ := ho
 refine (z14 [] func43 rfl (by decide +kernel) rfl ?_)
 show awp _ _ (Code.region _ _ _) _ _
 repeat' (first | ((refine zqr fun K J => ?_); (simp (disch := omega) only [go_sem, Nat.reduceBEq, ↓reduceIte, Nat.reduceAdd, Nat.reduceLeDiff, Nat.reduceLT, hk])) | refine zqu (by simp only [go_sem]; rfl) rfl ?_ | (refine J _ ?_; clear J K))
 (simp (disch := omega) only [go_sem])
 rfl
theorem rc_Len (hs : szB (treeV v) = true) (hc : cntT (treeV v) <= 1000000) (htb : tb < n) (hH : H tb = some (treeB (.ptr v.num 0))) (hu : Under n v) (hst : Stand H v) : RC prog 15 [.ptr tb 0] H n (.int .i64 (cntT (treeV v))) := by
 have k1 : (tb == n) = false := za1 (by omega)
 rw [zf3] at hc ⊢
 have c1 := fun o0 => zoa (g := 43) (cap := [.ptr n 0]) (k := n) cntS zme (fun H' => ∀ j, j < n -> H' j = H j) (fun H' o h j hj => by rw [z01 _ (by omega)]; exact h j hj) (fun _ => True) (fun w o _ h => zmf w o h) v hs (fun _ _ => trivial)
  (fun H' h w hw => Stand.agree (n := n) h w (z3e hu hw) (z5r v hst w hw)) (fun w hw H' nx o hu' hk hko hI _ => ac_Len1 hk hko hI) (z0k (z0k H n o0) n (some (.box 3 [.int .i64 ((0 : Nat))]))) (n + 1) (.box 3 [.int .i64 ((0 : Nat))]) (hu.le (by omega)) (Nat.lt_succ_self _) z2u ⟨_, rfl⟩ (fun j hj => by rw [z01 _ (by omega), z01 _ (by omega)])
 rw [cnt_fold _ _ (by omega)] at c1
 refine zjn rfl (z14 [] func15 rfl (by decide +kernel) rfl ?_)
 show awp _ _ (Code.seq _ _) _ _
 repeat' (first | ((refine zqh fun K J => ?_); (simp (disch := omega) only [go_sem, Nat.reduceBEq, ↓reduceIte, reduceCtorEq, Nat.reduceAdd, Nat.reduceLeDiff, Nat.reduceLT, hH, k1, treeB])) | (refine J _ ?_; clear J K))
 refine z1m ((c1 _).mono fun r' H' n' ⟨e1, e2, e3⟩ => ?_)
 subst e1; subst e3
 have hn : H' n = some (.box 3 [.int .i64 ((0 + (nodesV v).length : Nat))]) := by rw [e2]; exact z2u
 (try (simp (disch := omega) only [go_sem])); repeat' (first | ((refine zqh fun K J => ?_); (simp (disch := omega) only [go_sem, Nat.reduceBEq, ↓reduceIte, Nat.reduceAdd, hn])) | refine zqn ?_ | refine zqu (by simp only [go_sem]; rfl) rfl ?_ | (refine J _ ?_; clear J K))
 (simp (disch := omega) only [go_sem, Nat.reduceBEq])
 refine fun j hj => ?_
 rw [e2, z01 _ (by omega), z01 _ (by omega), z01 _ (by omega)]
theorem find_id {id : Idv} {t : T} (h : (z05 id t).2 = true) : (z05 id t).1.id = id := by
 have h1 := z75.1 h
 unfold z05
 rw [zcf _ h1]
 exact zkc id t h1
theorem ztb (hn : (idsT (treeV v)).Nodup) (id : Idv) : (z9l id v = .nptr /\ z05 id (treeV v) = (T.zero, false)) \/ ∃ w ∈ nodesV v, w.own.id = id /\ z9l id v = .ptr w.num 0 /\ z05 id (treeV v) = (treeV w, true) := by
 unfold z9l
 cases hf : (nodesV v).find? (fun w => decide (w.own.id = id)) with
 | none =>
  left
  refine ⟨rfl, ?_⟩
  have hno : id ∉ idsT (treeV v) := fun hm => by
   rw [z49] at hm
   obtain ⟨w, hw, e⟩ := List.mem_map.1 hm
   have := List.find?_eq_none.1 hf w hw
   simp [e] at this
  refine z9a ?_
  rw [z5l]
  exact hno
 | some w =>
  right
  have hw := List.mem_of_find?_eq_some hf
  have e : w.own.id = id := by simpa using List.find?_some hf
  refine ⟨w, hw, e, rfl, ?_⟩
  have hm : id ∈ idsT (treeV v) := by rw [z49]; exact List.mem_map.2 ⟨w, hw, e⟩
  have h2 : (z05 id (treeV v)).2 = true := by rw [z27, decide_eq_true hm]
  have h3 := z7o h2
  have h4 : (z05 id (treeV v)).1 = treeV w := by
   have hwn : treeV w ∈ z0j (treeV v) := by rw [z5q]; exact List.mem_map.2 ⟨w, hw, rfl⟩
   exact z7p (f := T.id) hn _ h3 _ hwn (by rw [z2s, e]; exact find_id h2)
  exact Prod.ext h4 h2
theorem wrong_ex {u : T} : z25 u ⟨-1, 0, 0⟩ 0 (.mk ⟨-2, 0, 0⟩ 2 ⟨#[49]⟩ [] [] []) = 1 ↔ standsT u = false := by
 unfold z25
 have h1 : standsT (.mk ⟨-2, 0, 0⟩ 2 ⟨#[49]⟩ [] [] []) = true := by decide +kernel
 cases hs : standsT u with
 | false => simp
 | true =>
  rw [h1]
  have h2 : T.kind (.mk ⟨-2, 0, 0⟩ 2 ⟨#[49]⟩ [] [] []) = 2 := rfl
  rw [h2]
  simp only [Bool.true_eq_false, false_or, iff_false]
  rw [if_neg (by decide)]
  split
  ·decide
  split
  ·decide
  split
  ·decide
  split
  ·decide
  split
  ·decide
  split <;> decide
structure NewOK (u : T) (H : HM) (n : Nat) (o : D × HM × Nat) : Prop where
 le : n <= o.2.2
 agree : Agree n H o.2.1
 bad : standsT u = false -> o.1 = .nptr
 good : standsT u = true -> ∃ v t, o.1 = .ptr t 0 /\ n <= t /\ t < o.2.2 /\ o.2.1 t = some (treeB (.ptr v.num 0)) /\ Stand o.2.1 v /\ Under o.2.2 v /\ treeV v = u /\ (objsV v).Nodup /\ ∀ j ∈ objsV v, n <= j
theorem zxm (u : T) (hs : szB u = true) (hc1 : cntT u <= 1000000) (hd : depT u <= 1000000) : Det 11 [z0m u] H n (NewOK u H n) := by
 have c0 := (zks u (.mk ⟨-2, 0, 0⟩ 2 ⟨#[49]⟩ [] [] []) hs (by decide +kernel) hc1 (by decide +kernel) hd (by decide +kernel) ⟨-1, 0, 0⟩).le (ds := [z0m u, z0n ⟨-1, 0, 0⟩, .agg [.int .i64 (-2), .int .i64 0, .int .i64 0, .int .i64 2, .str ⟨#[49]⟩, .nil, .nil, .nil]])
  (by simp [pureD.pureL, z02, pureD, z0n, z07]) ⟨Le.refl _, Le.refl _, by rw [z0m, z0f]; exact Le.agg ⟨Le.refl _, Le.refl _, Le.refl _, Le.refl _, Le.refl _, Le.nil 4, Le.nil 4, Le.nil 8, trivial⟩, trivial⟩
 have hw := wrong_ex (u := u)
 generalize z25 u ⟨-1, 0, 0⟩ 0 (.mk ⟨-2, 0, 0⟩ 2 ⟨#[49]⟩ [] [] []) = e at c0 hw
 have hag : Agree n H (z0k H n (some (unitB u))) := fun j hj => z01 _ (by omega)
 cases hst : standsT u with
 | false =>
  have he := hw.2 hst
  subst he
  refine ⟨(.nptr, z0k H n (some (unitB u)), n + 1), ?_, ⟨by simp, hag, fun _ => rfl, fun h => by rw [hst] at h; cases h⟩⟩
  refine (z14 [] func11 rfl (by decide +kernel) rfl ?_)
  show awp _ _ (Code.seq _ _) _ _
  repeat' (first | refine zqj ?_ | ((first | refine zqh fun K J => ?_ | refine zqs (c0) ?_); (simp (disch := omega) only [go_sem, Nat.reduceBEq, ↓reduceIte, Nat.reduceAdd, Nat.reduceLeDiff])) | ((refine zqd _ rfl (fun hc => ?_) (fun hc => ?_)) <;> (first | (cases hc; done) | ((try simp only [] at hc); (try omega)))) | refine zqg ?_ | refine zqu (by simp only [go_sem]; rfl) rfl ?_ | (refine J _ ?_; clear J K))
  (simp (disch := omega) only [go_sem, Nat.reduceBEq])
  rfl
 | true =>
  have he : ¬ e = 1 := fun h => by rw [hw.1 h] at hst; cases hst
  have c1 := zrb u hs (z0k H n (some (unitB u))) (n + 1)
  have hg := z7a u (z0k H n (some (unitB u))) (n + 1)
  have hnum : (z67 u (z0k H n (some (unitB u))) (n + 1)).1.num = n + 1 + 1 := by rw [zat]; rfl
  generalize z67 u (z0k H n (some (unitB u))) (n + 1) = g at c1 hg hnum
  obtain ⟨g1, g2, g3, g4, g5, g6, g7⟩ := hg
  refine ⟨(.ptr g.2.2 0, z0k g.2.1 g.2.2 (some (treeB (.ptr (n + 1 + 1) 0))), g.2.2 + 1), ?_, ⟨by simp only; omega, fun j hj => ?_, (fun h => by rw [hst] at h; cases h), fun _ => ⟨g.1, g.2.2, rfl, by omega, by simp, ?_, ?_, g5.le (by simp), g1, g7, fun j hj => by have := g6 j hj; omega⟩⟩⟩
  ·refine (z14 [] func11 rfl (by decide +kernel) rfl ?_)
   show awp _ _ (Code.seq _ _) _ _
   unfold unitB at c1
   repeat' (first | refine zqj ?_ | ((first | refine zqh fun K J => ?_ | refine zqs (c0) ?_); (simp (disch := omega) only [go_sem, Nat.reduceBEq, ↓reduceIte, Nat.reduceAdd, Nat.reduceLeDiff])) | ((refine zqd _ rfl (fun hc => ?_) (fun hc => ?_)) <;> (((try simp only [z0b] at hc); (try omega)))) | refine zqb ?_ | (refine J _ ?_; clear J K))
   refine z1m (c1.mono fun r' H' n' ⟨e1, e2, e3⟩ => ?_)
   subst e1; subst e2; subst e3
   (try (simp (disch := omega) only [go_sem, Nat.reduceBEq, ↓reduceIte, Nat.reduceLeDiff])); repeat' (first | refine zqn ?_ | refine zqu (by simp only [go_sem]; rfl) rfl ?_ | (refine J _ ?_; clear J K))
   (simp (disch := omega) only [go_sem, Nat.reduceBEq])
   rfl
  ·simp only
   rw [z01 _ (by omega), g3 j (by omega), hag j hj]
  ·simp only
   rw [z28, hnum]
  ·exact Stand.on g.1 (fun j hj => z01 _ (by have := g5 j hj; omega)) g4
end
end
end Go.Proofs.YtmnabhhdiinfaaaGreatDoor
