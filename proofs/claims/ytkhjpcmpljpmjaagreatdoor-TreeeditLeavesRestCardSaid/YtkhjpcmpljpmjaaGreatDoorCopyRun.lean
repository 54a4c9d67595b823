/-
  The run of copy and clear at elements of any size, into a row that the call owns. Concrete worlds, no condition on the program.
-/
import Derived.Test.YtkhjpcmpljpmjaaGreatDoorLayD
import Derived.Test.YtkhjpcmpljpmjaaGreatDoorFacts
import Derived.WalkKit
import Derived.Lib.Walk
import Derived.Lib.SliceRun
import Derived.Lib.AppendZerosOnto
import Derived.Lib.Overlaps
import Derived.Laws.Externs
import Derived.Laws.NewBlocks
import Derived.Shelf.Spec.SlicesInsert
set_option linter.unusedSimpArgs false
set_option linter.unusedVariables false
namespace Go.Proofs.YtkhjpcmpljpmjaaGreatDoor
open Abs Facts Go.Lib
variable {P : Program}
theorem run_copy_row (w : World) (dT sT ty elem : TypeId) (sz g o dLen dCap : Nat) (cur : Array Value) (a : Addr) (sLen sCap : Nat) (cs : List Value)
    (hu : P.underlying dT = some (.slice elem)) (hs : (P.info? elem).map (·.size) = some sz) (hn : cs.length = Nat.min sLen dLen * sz)
    (hsrc : ∀ j v, cs[j]? = some v → w.cell? (a.add j) = some v) (hg : w.heap[g]? = some (.cells cur elem (0, 0))) (hfit : o + cs.length ≤ cur.size) (h1 : ∀ v ∈ cs, v.oneCell' = true) :
    (Builtin.copy_ #[dT, sT] ty #[.slice (some ⟨g, o, none⟩) dLen dCap, .slice (some a) sLen sCap]).run P w = .ok (goInt (Nat.min sLen dLen)) (w.setRow g (cur.toList.take o ++ cs ++ cur.toList.drop (o + cs.length)).toArray) := by
  have hl := run_loadCells_list (P := P) w a cs hsrc
  have hst := run_storeCells_at P g o elem cs 0 cur w hg (by simpa using hfit) h1
  simp only [Nat.add_zero] at hst
  cases hq : P.info? elem with
  | none => simp [hq] at hs
  | some i =>
    have hi : i.size = sz := by simpa [hq] using hs
    simp [Builtin.copy_, run_underlying hu, Builtin.lenOf, Builtin.firstCells, sizeOf, typeInfo, hq, hi, ← hn, hl, hst]
theorem run_clear_row (w : World) (t e ty : TypeId) (z : Value) (sz g o n c : Nat) (cur : Array Value) (ht : P.underlying t = some (.slice e)) (hv : ∀ w, (zeroValue e).run P w = .ok z w) (hz : z.cells.size = sz) (h1 : ∀ v ∈ z.cells.toList, v.oneCell' = true)
    (hn : 0 < n) (hg : w.heap[g]? = some (.cells cur e (0, 0))) (hfit : o + n * sz ≤ cur.size) :
    (Builtin.clear_ #[t] ty #[.slice (some ⟨g, o, none⟩) n c]).run P w = .ok (.tuple #[]) (w.setRow g (cur.toList.take o ++ (Builtin.zeroCells z.cells n).toList ++ cur.toList.drop (o + n * sz)).toArray) := by
  have hlen : (Builtin.zeroCells z.cells n).toList.length = n * sz := by rw [Array.length_toList, size_zeroCells, hz]
  have hst := run_storeCells_at P g o e (Builtin.zeroCells z.cells n).toList 0 cur w hg (by rw [hlen]; omega) (by
    intro v hv'
    simp only [Builtin.zeroCells, Array.toList_map, Array.toList_range, List.mem_map, List.mem_range] at hv'
    obtain ⟨k, hk, rfl⟩ := hv'
    have h0 : 0 < z.cells.size := by rcases Nat.eq_zero_or_pos z.cells.size with h | h; · rw [h] at hk; omega
                                     · exact h
    have hkm := Nat.mod_lt k h0
    rw [getElem!_pos z.cells _ hkm]
    exact h1 _ (by simp))
  simp only [Nat.add_zero, hlen] at hst
  obtain ⟨m, rfl⟩ : ∃ m, n = m + 1 := ⟨n - 1, by omega⟩
  simp [Builtin.clear_, run_underlying ht, hv, hst]
theorem wpList_clear_runI (w : World) {ops : Array Oper} {rest : List Oper} {o : Oper} {a : Act} {Q : Exit → Act → World → Prop} (hgd : o.guard = none) (d : Operand) (t : TypeId)
    (ho : o.op = .call { callee := .builtin .clear, args := #[d], argTypes := #[t] }) (v : Value) (hd : a.eval d = v) {v' : Value} {w' : World}
    (hr : (Builtin.clear_ #[t] o.type #[v]).run P w = .ok v' w') (h : wpList P ops Q rest (a.put o.dst v') w') : wpList P ops Q (o :: rest) a w := by
  refine wpList_plain hgd fun K hK => ?_
  unfold Oper.wp execOp
  simp only [ho, resolve, invoke, builtin, Sem.run_bind, Sem.run_pure, Result.andThen_ok, List.map_toArray, List.map_cons, List.map_nil, hd, hr]
  exact hK _ _ h
theorem sem_pure_bind {α β : Type} (x : α) (f : α → Sem β) : (pure x : Sem α).bind f = f x := rfl
theorem run_overlaps_own (w : World) (tS tR e : TypeId) (ht : P.underlying tS = some (.slice e)) (size : Nat) (hz : ∀ w, (Go.sizeOf e).run P w = .ok size w)
    (a b : Addr) (la ca lb cb : Nat) (hne : a.block ≠ b.block) (tA tB : TypeId) (kA kB : Nat)
    (hsa : w.shape? a.block = some (tA, kA)) (hsb : w.shape? b.block = some (tB, kB)) (hkA : kA ≠ 0)
    (hfb : w.frozen? b = false) (hfe : w.frozen? { block := b.block, off := kB } = false) :
    (Extern.SlicesOverlaps.overlaps #[tS, tS] #[tR] #[.slice (some a) la ca, .slice (some b) lb cb]).run P w = .ok (.bool false) w := by
  have hnb : (a.block != b.block) = true := by simpa using hne
  have hnb' : (a.block == b.block) = false := by simpa using hne
  conv => lhs; arg 2; whnf
  by_cases h0 : la = 0 ∨ lb = 0 ∨ size = 0
  · simp [Sem.run, Sem.bind, sem_pure_bind, ht, hz, h0]
  · cases kA with
    | zero => exact absurd rfl hkA
    | succ kA =>
      simp [Sem.bind, sem_pure_bind, ht, hz, h0, hnb, hnb', frozen, noView, viewAt, mayBeOne, stringish, shape, Sem.run, hsa, hsb, hfb, hfe]
theorem setRow_setRow (w : World) (g : Nat) (a b : Array Value) : (w.setRow g a).setRow g b = w.setRow g b := by
  have : ((w.setRow g a).setRow g b).heap = (w.setRow g b).heap := by
    apply Array.ext_getElem?
    intro k
    simp only [World.setRow, Array.getElem?_modify]
    by_cases h : g = k
    · rw [if_pos h, if_pos h, if_pos h, Option.map_map]
      congr 1
      funext o
      cases o <;> rfl
    · rw [if_neg h, if_neg h, if_neg h]
  show ({ w with heap := ((w.setRow g a).setRow g b).heap } : World) = _
  rw [this]
  rfl
theorem push_modify (a : Array Obj) (x : Obj) (f : Obj → Obj) : (a.push x).modify a.size f = a.push (f x) := by
  apply Array.ext_getElem?
  intro k
  simp only [Array.getElem?_modify, Array.getElem?_push]
  by_cases h : a.size = k
  · subst h; simp
  · rw [if_neg h]
    by_cases h2 : k = a.size
    · exact absurd h2.symm h
    · rw [if_neg h2, if_neg h2]
theorem grow_list {α : Type} {A B Z vs : List α} {i k m : Nat} (hA : A.length = i) (hB : B.length = k) (hv : vs.length = m) (hZ : m + k ≤ Z.length) :
    let c1 := (A ++ Z).take i ++ vs ++ (A ++ Z).drop (i + m)
    c1.take (i + m) ++ B ++ c1.drop (i + m + k) = A ++ vs ++ B ++ Z.drop (m + k) := by
  intro c1
  have h1 : (A ++ Z).take i = A := by rw [List.take_append_of_le_length (by omega), List.take_of_length_le (by omega)]
  have h2 : (A ++ Z).drop (i + m) = Z.drop m := by rw [List.drop_append, List.drop_of_length_le (by omega), List.nil_append]; congr 1; omega
  have hc : c1 = A ++ vs ++ Z.drop m := by show _ ++ vs ++ _ = _; rw [h1, h2]
  have hl : (A ++ vs).length = i + m := by rw [List.length_append]; omega
  rw [hc]
  have e1 : (A ++ vs ++ Z.drop m).take (i + m) = A ++ vs := by rw [List.take_append_of_le_length (by omega), List.take_of_length_le (by omega)]
  have e2 : (A ++ vs ++ Z.drop m).drop (i + m + k) = Z.drop (m + k) := by
    rw [List.drop_append, List.drop_of_length_le (by omega), List.nil_append, List.drop_drop]; congr 1; omega
  rw [e1, e2]
theorem shift_list {α : Type} {A B R vs : List α} {i k m : Nat} (hA : A.length = i) (hB : B.length = k) (hv : vs.length = m) (hm : m ≤ R.length) :
    let c1 := (A ++ B ++ R).take (i + m) ++ B ++ (A ++ B ++ R).drop (i + m + k)
    c1.take i ++ vs ++ c1.drop (i + m) = A ++ vs ++ B ++ R.drop m := by
  intro c1
  have h1 : (A ++ B ++ R).take (i + m) = A ++ (B ++ R).take m := by rw [List.append_assoc, List.take_append, hA, List.take_of_length_le (by omega)]; congr 2; omega
  have h2 : (A ++ B ++ R).drop (i + m + k) = R.drop m := by rw [List.drop_append, List.drop_of_length_le (by rw [List.length_append]; omega), List.nil_append, List.length_append]; congr 1; omega
  have hl : ((B ++ R).take m).length = m := by rw [List.length_take, List.length_append]; omega
  have hc : c1 = A ++ ((B ++ R).take m ++ (B ++ R.drop m)) := by show _ ++ B ++ _ = _; rw [h1, h2]; simp only [List.append_assoc]
  rw [hc]
  have e1 : (A ++ ((B ++ R).take m ++ (B ++ R.drop m))).take i = A := by rw [List.take_append_of_le_length (by omega), List.take_of_length_le (by omega)]
  have e2 : (A ++ ((B ++ R).take m ++ (B ++ R.drop m))).drop (i + m) = B ++ R.drop m := by
    rw [List.drop_append, List.drop_of_length_le (by omega), List.nil_append, hA, Nat.add_sub_cancel_left, List.drop_append, List.drop_of_length_le (by omega), List.nil_append, hl, Nat.sub_self, List.drop_zero]
  rw [e1, e2]
  simp only [List.append_assoc]
end Go.Proofs.YtkhjpcmpljpmjaaGreatDoor
