/-
  How many parts an argument has: at most its bulk (the second form's bound). No condition.
-/
import Derived.Test.YtkhjpcmpljpmjaaDoorRows
import Derived.Test.YtkhjpcmpljpmjaaDoorGlue
import Derived.Test.YtkhjpcmpljpmjaaDoorRefT
set_option linter.unusedSimpArgs false
set_option linter.unusedVariables false
namespace Go.Proofs.YtkhjpcmpljpmjaaDoor.Abs
open Go.RowKit Go.ChangeShapes
def wD : D → Nat
  | .agg ds => 1 + wL ds
  | .rsl _ _ els => wL els
  | _ => 0
where wL : List D → Nat
  | [] => 0
  | d :: ds => wD d + wL ds
export wD (wL)
theorem wL_append (l r : List D) : wL (l ++ r) = wL l + wL r := by
  induction l with
  | nil => simp [wL]
  | cons d l ih => simp only [List.cons_append, wL, ih]; omega
theorem wD_elD {ag : Bool} {p : List D} {b : Nat} (h : wL p + (if ag = true then 1 else 0) ≤ b) : wD (elD ag p) ≤ b := by
  cases ag with
  | true => simp only [elD, if_true, wD] at h ⊢; omega
  | false =>
    cases p with
    | nil => simp [elD, wD]
    | cons d p => simp only [elD, Bool.false_eq_true, if_false, List.getElem?_cons_zero, Option.getD_some]; simp only [wL] at h; omega
theorem bulk_parts {H : Type} {ag : Bool} : ∀ {len : Nat} {elems : List (DataW H × List MemPlace)} {f : _root_.Fin len → List D} (hl : elems.length = len), (∀ i : _root_.Fin len, wL (f i) + (if ag = true then 1 else 0) ≤ Rows.uptoBulk (elems[i.1]'(by omega)).1) →
    wL ((List.ofFn f).map (elD ag)) ≤ Rows.uptoBulkAll (elems.map (·.1)) := by
  intro len
  induction len with
  | zero => intro elems f hl h; simp [wL]
  | succ n ih =>
    intro elems f hl h
    cases elems with
    | nil => simp at hl
    | cons x r =>
      have h0 := wD_elD (h 0)
      have h1 := ih (elems := r) (f := fun i => f i.succ) (by simpa using hl) (fun i => by have := h i.succ; simpa using this)
      simp only [List.ofFn_succ, List.map_cons, wL, Rows.uptoBulkAll]
      simp only [_root_.Fin.val_zero, List.getElem_cons_zero] at h0
      omega
section
variable {H : Type} {enc : TypeId × Value → H} {P : Program} {W : World} {base : Nat} {spare : Nat → Bool} {held : Bool}
theorem cells_bulk {S : List TypeId} (hS : closedB P S = true) : ∀ (n : Nat) (t : TypeId) (cs : List Value) (x : DataW H × List MemPlace), t ∈ S → DataW.trod enc P W base spare held n t cs = some x →
    ∃ ds, relAll (readS W) ds cs ∧ ones cs ∧ Typed P n t ds ∧ (isAggT P t = false → ∃ c d, cs = [c] ∧ ds = [d]) ∧ wL ds + (if isAggT P t = true then 1 else 0) ≤ Rows.uptoBulk x.1 := by
  intro n
  induction n with
  | zero => intro t cs x _ h; simp [DataW.trod] at h
  | succ n ih =>
    intro t cs x ht h
    have hc := List.all_eq_true.1 hS t ht
    cases hu : P.underlying t with
    | none => rw [hu] at hc; cases hc
    | some td =>
      rw [hu] at hc
      cases td <;> first | (cases hc; done) | skip
      case bool =>
        obtain ⟨b, rfl, _⟩ := DataW.trod_bool hu h
        obtain ⟨h1, h2⟩ := one_read (W := W) (d := .bool b) (v := .bool b) (by simp [rel]) rfl
        exact ⟨_, h1, h2, by simp only [Typed, hu]; exact ⟨b, rfl⟩, fun _ => ⟨_, _, rfl, rfl⟩, by simp [wL, wD, isAggT, hu]⟩
      case int k =>
        obtain ⟨i, rfl, _, hw⟩ := DataW.trod_int hu h
        obtain ⟨h1, h2⟩ := one_read (W := W) (d := .int k i) (v := .int k i) (by simp [rel]) rfl
        exact ⟨_, h1, h2, by simp only [Typed, hu]; exact ⟨i, rfl, hw⟩, fun _ => ⟨_, _, rfl, rfl⟩, by simp [wL, wD, isAggT, hu]⟩
      case string =>
        obtain ⟨s, rfl, _, hw⟩ := DataW.trod_string hu h
        obtain ⟨h1, h2⟩ := one_read (W := W) (d := .str s) (v := .string s) (by simp [rel]) rfl
        exact ⟨_, h1, h2, by simp only [Typed, hu]; exact ⟨s, rfl, hw⟩, fun _ => ⟨_, _, rfl, rfl⟩, by simp [wL, wD, isAggT, hu]⟩
      case slice e =>
        have he := any_mem hc
        rcases DataW.trod_slice hu h with ⟨rfl, _⟩ | ⟨a, len, cap, elems, rest, m, hm, rfl, hxe, _, hl, hcm, hlen, hel, _⟩
        · obtain ⟨h1, h2⟩ := one_read (W := W) (d := .rsl false (sizeT P e) []) (v := .slice none 0 0) (by simp only [rel]; exact .inl ⟨trivial, trivial, trivial⟩) rfl
          exact ⟨_, h1, h2, by simp only [Typed, hu]; exact ⟨[], by simp, by simp, rfl⟩, fun _ => ⟨_, _, rfl, rfl⟩, by simp [wL, wD, isAggT, hu]⟩
        · cases hm
          have each : ∀ i : _root_.Fin len, ∃ p : List Value × List D, W.cells? base (a.add (i * P.cellsOf e)) (P.cellsOf e) = some p.1 ∧ relAll (readS W) p.2 p.1 ∧ ones p.1 ∧ Typed P n e p.2 ∧ (isAggT P e = false → ∃ c d, p.1 = [c] ∧ p.2 = [d]) ∧ wL p.2 + (if isAggT P e = true then 1 else 0) ≤ Rows.uptoBulk (elems[i.1]'(by omega)).1 := by
            intro i
            have hi := hel i i.2
            rw [List.getElem?_eq_getElem (by omega), Option.bind_eq_some_iff] at hi
            obtain ⟨cs', h1, h2⟩ := hi
            obtain ⟨ds, k1, k2, k3, k4, k5⟩ := ih e cs' _ he h2
            exact ⟨(cs', ds), h1, k1, k2, k3, k4, k5⟩
          obtain ⟨f, hf⟩ := Classical.axiomOfChoice each
          have hag : ∀ i, rel (readS W) (elD (isAggT P e) (f i).2) (elV (isAggT P e) (f i).1) ∧ (elV (isAggT P e) (f i).1).cells.toList = (f i).1 := by
            intro i
            obtain ⟨h1, h2, h3, h4, h5, _⟩ := hf i
            cases hag : isAggT P e with
            | true =>
              simp only [elD, elV, if_true, Value.cells]
              exact ⟨by simp only [rel]; exact ⟨_, rfl, h2, h3⟩, trivial⟩
            | false =>
              obtain ⟨c, d, hc1, hd1⟩ := h5 hag
              rw [hc1, hd1] at h2
              rw [hc1] at h3
              simp only [elD, elV, hc1, hd1, Bool.false_eq_true, if_false, List.getElem?_cons_zero, Option.getD_some]
              simp only [relAll] at h2
              obtain ⟨v, r, hv, hrel, hr⟩ := h2
              simp only [List.cons.injEq] at hv
              obtain ⟨rfl, rfl⟩ := hv
              refine ⟨hrel, ?_⟩
              rw [cells_of_one (h3 c (by simp))]
          have hsz : sizeT P e = P.cellsOf e := rfl
          obtain ⟨h1, h2⟩ := one_read (W := W) (d := .rsl false (sizeT P e) ((List.ofFn fun i => (f i).2).map (elD (isAggT P e)))) (v := .slice (some a) len cap) (by
            simp only [rel]
            refine .inr ⟨a, cap, List.ofFn fun i => elV (isAggT P e) (f i).1, by simp, by simpa using hl, hcm, relAll_of (by simp) (fun i d v hd hv => ?_), fun i v hv => ?_⟩
            · simp only [List.getElem?_map, List.getElem?_ofFn] at hd hv
              split at hv
              · rename_i hi
                rw [dif_pos hi] at hd
                simp only [Option.map_some, Option.some.injEq] at hd hv
                subst hd; subst hv
                exact (hag ⟨i, hi⟩).1
              · cases hv
            · simp only [List.getElem?_ofFn] at hv
              split at hv
              · rename_i hi
                simp only [Option.some.injEq] at hv
                subst hv
                obtain ⟨g1, _⟩ := hf ⟨i, hi⟩
                obtain ⟨_, g2, g3⟩ := World.cells?_some g1
                have g4 := (hag ⟨i, hi⟩).2
                refine ⟨by rw [← Array.length_toList, g4, g2, hsz], fun j c hj => ?_⟩
                rw [g4] at hj
                have hjl : j < P.cellsOf e := by rw [← g2]; exact (List.getElem?_eq_some_iff.1 hj).1
                have := g3 j hjl
                rw [hj] at this
                exact this
              · cases hv) rfl
          refine ⟨_, h1, h2, ?_, fun _ => ⟨_, _, rfl, rfl⟩, ?_⟩
          rotate_left
          · rw [hxe]
            have hat : isAggT P t = false := by simp only [isAggT, hu]
            simp only [hat, Bool.false_eq_true, if_false, wL, wD, Nat.add_zero, Rows.uptoBulk]
            have := bulk_parts (ag := isAggT P e) (elems := elems) (f := fun i : _root_.Fin len => (f i).2) hlen (fun i => (hf i).2.2.2.2.2)
            omega
          simp only [Typed, hu]
          refine ⟨List.ofFn fun i => (f i).2, by simp; omega, fun p hp => ?_, rfl⟩
          obtain ⟨i, rfl⟩ := List.mem_ofFn.1 hp
          exact (hf i).2.2.2.1
      case struct fs =>
        obtain ⟨xs, m, hm, hxe, hcl, hxl, hxf⟩ := DataW.trod_struct hu h
        cases hm
        simp only [Bool.and_eq_true] at hc
        obtain ⟨htile, hfs⟩ := hc
        have key : ∀ (l : List Field) (off k : Nat), (∀ i, l[i]? = fs[k + i]?) → tilesB P (P.cellsOf t) l off = true → ∃ ds, relAll (readS W) ds (cs.drop off) ∧ ones (cs.drop off) ∧ TypedFs (Typed P n) l ds ∧ wL ds ≤ Rows.uptoBulkAll ((xs.drop k).map (·.1)) := by
          intro l
          induction l with
          | nil =>
            intro off k _ ht'
            simp only [tilesB, beq_iff_eq] at ht'
            subst ht'
            rw [← hcl, List.drop_length]
            exact ⟨[], relAll_nil, fun v hv => by simp at hv, rfl, by simp [wL]⟩
          | cons g l ihl =>
            intro off k hl ht'
            simp only [tilesB, Bool.and_eq_true, beq_iff_eq] at ht'
            obtain ⟨rfl, ht'⟩ := ht'
            have hg : fs[k]? = some g := by have := hl 0; simpa using this.symm
            have hlt : k < fs.size := (Array.getElem?_eq_some_iff.1 hg).1
            have hx := hxf k g hg
            rw [List.getElem?_eq_getElem (by omega)] at hx
            have hmem : g ∈ fs.toList := by
              obtain ⟨h1, h2⟩ := Array.getElem?_eq_some_iff.1 hg
              rw [← h2]; exact Array.mem_toList_iff.2 (Array.getElem_mem h1)
            obtain ⟨d1, r1, r2, r3, _, r5⟩ := ih g.type _ _ (any_mem (List.all_eq_true.1 hfs g hmem)) hx
            obtain ⟨d2, q1, q2, q3, q5⟩ := ihl (g.offset + P.cellsOf g.type) (k + 1) (fun i => by have := hl (i + 1); simpa [Nat.add_assoc, Nat.add_comm 1 i] using this) ht'
            have hsp : cs.drop g.offset = (cs.drop g.offset).take (P.cellsOf g.type) ++ cs.drop (g.offset + P.cellsOf g.type) := by
              rw [← List.drop_drop, List.take_append_drop]
            rw [hsp]
            exact ⟨d1 ++ d2, relAll_append r1 q1, fun v hv => by
              rcases List.mem_append.1 hv with hv | hv
              · exact r2 v hv
              · exact q2 v hv, ⟨d1, d2, rfl, r3, q3⟩, by
              rw [List.drop_eq_getElem_cons (by omega : k < xs.length), List.map_cons, wL_append]
              simp only [Rows.uptoBulkAll]
              omega⟩
        obtain ⟨ds, h1, h2, h3, h5⟩ := key fs.toList 0 0 (fun i => by simp) htile
        rw [List.drop_zero] at h1 h2
        refine ⟨ds, h1, h2, by simp only [Typed, hu]; exact h3, fun hag => ?_, ?_⟩
        · simp only [isAggT, hu] at hag
          cases hag
        · rw [hxe]
          simp only [isAggT, hu, if_true, Rows.uptoBulk]
          rw [List.drop_zero] at h5
          omega
/-- A struct, and its bulk. -/
theorem agg_bulk {S : List TypeId} (hS : closedB P S = true) {t : TypeId} {cs : Array Value} {d : DataW H} {p : List MemPlace} (ht : t ∈ S) (h : DataW.Trod enc P W base spare held t (.agg cs) d p) :
    ∃ n ds, Typed P n t ds ∧ rel (readS W) (.agg ds) (.agg cs) ∧ wL ds ≤ Rows.uptoBulk d := by
  obtain ⟨n, h⟩ := h
  obtain ⟨ds, h1, h2, h3, _, h5⟩ := cells_bulk hS n t _ _ ht h
  refine ⟨n, ds, h3, ?_, Nat.le_trans (Nat.le_add_right _ _) h5⟩
  simp only [rel]
  exact ⟨cs.toList, by simp, by simpa [Value.cells] using h1, by simpa [Value.cells] using h2⟩
end
end Abs
open Abs Tr
theorem wL_encUs : ∀ (l : List T), (∀ k ∈ l, cntT k ≤ 1 + wL (cellsU k)) → (l.flatMap nodesT).length ≤ wL (l.map encU) := by
  intro l
  induction l with
  | nil => intro _; simp [wL]
  | cons k l ih =>
    intro h
    have h1 := h k (by simp)
    have h2 := ih fun k hk => h k (by simp [hk])
    have h3 : (nodesT k).length = cntT k := rfl
    simp only [List.flatMap_cons, List.length_append, List.map_cons, wL, encU, wD] at h2 ⊢
    omega
/-- So many units. -/
theorem cnt_wL : ∀ t : T, cntT t ≤ 1 + wL (cellsU t) := by
  refine ind1 fun t ih => ?_
  have h := wL_encUs t.kids ih
  rw [cntT_eq, cellsU_eq]
  simp only [wL, wD, encUs]
  omega
end Go.Proofs.YtkhjpcmpljpmjaaDoor
