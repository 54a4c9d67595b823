/-
 The reading of a law's arguments as abstract values: integers, strings, bools, slices and structs of them, however nested. No condition.
-/
import Derived.Test.YtkhjpcmpljpmjaaGreatDoorLayD
import Derived.ChangeArms
import Derived.DataReads
set_option linter.unusedSimpArgs false
set_option linter.unusedVariables false
namespace Go.Proofs.YtkhjpcmpljpmjaaGreatDoor.Abs
open Go.RowKit Go.ChangeShapes

def elD (ag : Bool) (p : List D) : D := if ag = true then .agg p else (p[0]?).getD .any
def elV (ag : Bool) (p : List Value) : Value := if ag = true then .agg p.toArray else (p[0]?).getD undef
def TypedFs (T : TypeId → List D → Prop) : List Field → List D → Prop
 | [], ds => ds = []
 | f :: fs, ds => ∃ d1 d2, ds = d1 ++ d2 ∧ T f.type d1 ∧ TypedFs T fs d2
def Typed (P : Program) : Nat → TypeId → List D → Prop
 | 0, _, _ => False
 | n + 1, t, ds => match P.underlying t with
  | some .bool => ∃ b, ds = [.bool b]
  | some (.int k) => ∃ i, ds = [.int k i] ∧ (Lit.int k i).wf = true
  | some .string => ∃ s : ByteArray, ds = [.str s] ∧ s.size ≤ maxLen
  | some (.slice e) => ∃ parts : List (List D), parts.length ≤ maxLen ∧ (∀ p ∈ parts, Typed P n e p) ∧ ds = [.rsl false (sizeT P e) (parts.map (elD (isAggT P e)))]
  | some (.struct fs) => TypedFs (Typed P n) fs.toList ds
  | _ => False
def tilesB (P : Program) (n : Nat) : List Field → Nat → Bool
 | [], off => off == n
 | f :: fs, off => f.offset == off && tilesB P n fs (off + P.cellsOf f.type)
def closedB (P : Program) (S : List TypeId) : Bool :=
 S.all fun t => match P.underlying t with
  | some .bool | some (.int _) | some .string => true
  | some (.slice e) => S.any fun u => u == e
  | some (.struct fs) => tilesB P (P.cellsOf t) fs.toList 0 && fs.toList.all fun f => S.any fun u => u == f.type
  | _ => false

section
variable {H : Type} {enc : TypeId × Value → H} {P : Program} {W : World} {base : Nat} {spare : Nat → Bool} {held : Bool}
theorem any_mem {S : List TypeId} {e : TypeId} (h : (S.any fun u => u == e) = true) : e ∈ S := by
 obtain ⟨x, hx, he⟩ := List.any_eq_true.1 h
 rw [← beq_iff_eq.1 he]; exact hx
theorem one_read {d : D} {v : Value} (h : rel (readS W) d v) (h1 : v.oneCell' = true) : relAll (readS W) [d] [v] ∧ ones [v] :=
 ⟨relAll_cons h relAll_nil, fun u hu => by simp at hu; subst hu; exact h1⟩
theorem cells_read {S : List TypeId} (hS : closedB P S = true) : ∀ (n : Nat) (t : TypeId) (cs : List Value) (x : DataW H × List MemPlace), t ∈ S → DataW.trod enc P W base spare held n t cs = some x →
  ∃ ds, relAll (readS W) ds cs ∧ ones cs ∧ Typed P n t ds ∧ (isAggT P t = false → ∃ c d, cs = [c] ∧ ds = [d]) := by
 intro n
 induction n with
 | zero => intro t cs x _ h; simp [DataW.trod] at h
 | succ n ih =>
  intro t cs x ht h
  have hc := List.all_eq_true.1 hS t ht
  cases hu : P.underlying t with
  | none => rw [hu] at hc; cases hc
  | some td =>
   rw [hu] at hc
   cases td <;> first | (cases hc; done) | skip
   case bool =>
    obtain ⟨b, rfl, _⟩ := DataW.trod_bool hu h
    obtain ⟨h1, h2⟩ := one_read (W := W) (d := .bool b) (v := .bool b) (by simp [rel]) rfl
    exact ⟨_, h1, h2, by simp only [Typed, hu]; exact ⟨b, rfl⟩, fun _ => ⟨_, _, rfl, rfl⟩⟩
   case int k =>
    obtain ⟨i, rfl, _, hw⟩ := DataW.trod_int hu h
    obtain ⟨h1, h2⟩ := one_read (W := W) (d := .int k i) (v := .int k i) (by simp [rel]) rfl
    exact ⟨_, h1, h2, by simp only [Typed, hu]; exact ⟨i, rfl, hw⟩, fun _ => ⟨_, _, rfl, rfl⟩⟩
   case string =>
    obtain ⟨s, rfl, _, hw⟩ := DataW.trod_string hu h
    obtain ⟨h1, h2⟩ := one_read (W := W) (d := .str s) (v := .string s) (by simp [rel]) rfl
    exact ⟨_, h1, h2, by simp only [Typed, hu]; exact ⟨s, rfl, hw⟩, fun _ => ⟨_, _, rfl, rfl⟩⟩
   case slice e =>
    have he := any_mem hc
    rcases DataW.trod_slice hu h with ⟨rfl, _⟩ | ⟨a, len, cap, elems, rest, m, hm, rfl, _, _, hl, hcm, hlen, hel, _⟩
    ·obtain ⟨h1, h2⟩ := one_read (W := W) (d := .rsl false (sizeT P e) []) (v := .slice none 0 0) (by simp only [rel]; exact .inl ⟨trivial, trivial, trivial⟩) rfl
     exact ⟨_, h1, h2, by simp only [Typed, hu]; exact ⟨[], by simp, by simp, rfl⟩, fun _ => ⟨_, _, rfl, rfl⟩⟩
    ·cases hm
     have each : ∀ i : _root_.Fin len, ∃ p : List Value × List D, W.cells? base (a.add (i * P.cellsOf e)) (P.cellsOf e) = some p.1 ∧ relAll (readS W) p.2 p.1 ∧ ones p.1 ∧ Typed P n e p.2 ∧ (isAggT P e = false → ∃ c d, p.1 = [c] ∧ p.2 = [d]) := by
      intro i
      have hi := hel i i.2
      rw [List.getElem?_eq_getElem (by omega), Option.bind_eq_some_iff] at hi
      obtain ⟨cs', h1, h2⟩ := hi
      obtain ⟨ds, k1, k2, k3, k4⟩ := ih e cs' _ he h2
      exact ⟨(cs', ds), h1, k1, k2, k3, k4⟩
     obtain ⟨f, hf⟩ := Classical.axiomOfChoice each
     have hag : ∀ i, rel (readS W) (elD (isAggT P e) (f i).2) (elV (isAggT P e) (f i).1) ∧ (elV (isAggT P e) (f i).1).cells.toList = (f i).1 := by
      intro i
      obtain ⟨h1, h2, h3, h4, h5⟩ := hf i
      cases hag : isAggT P e with
      | true =>
       simp only [elD, elV, if_true, Value.cells]
       exact ⟨by simp only [rel]; exact ⟨_, rfl, h2, h3⟩, trivial⟩
      | false =>
       obtain ⟨c, d, hc1, hd1⟩ := h5 hag
       rw [hc1, hd1] at h2
       rw [hc1] at h3
       simp only [elD, elV, hc1, hd1, Bool.false_eq_true, if_false, List.getElem?_cons_zero, Option.getD_some]
       simp only [relAll] at h2
       obtain ⟨v, r, hv, hrel, hr⟩ := h2
       simp only [List.cons.injEq] at hv
       obtain ⟨rfl, rfl⟩ := hv
       refine ⟨hrel, ?_⟩
       rw [cells_of_one (h3 c (by simp))]
     have hsz : sizeT P e = P.cellsOf e := rfl
     obtain ⟨h1, h2⟩ := one_read (W := W) (d := .rsl false (sizeT P e) ((List.ofFn fun i => (f i).2).map (elD (isAggT P e)))) (v := .slice (some a) len cap) (by
      simp only [rel]
      refine .inr ⟨a, cap, List.ofFn fun i => elV (isAggT P e) (f i).1, by simp, by simpa using hl, hcm, relAll_of (by simp) (fun i d v hd hv => ?_), fun i v hv => ?_⟩
      ·simp only [List.getElem?_map, List.getElem?_ofFn] at hd hv
       split at hv
       ·rename_i hi
        rw [dif_pos hi] at hd
        simp only [Option.map_some, Option.some.injEq] at hd hv
        subst hd; subst hv
        exact (hag ⟨i, hi⟩).1
       ·cases hv
      ·simp only [List.getElem?_ofFn] at hv
       split at hv
       ·rename_i hi
        simp only [Option.some.injEq] at hv
        subst hv
        obtain ⟨g1, _⟩ := hf ⟨i, hi⟩
        obtain ⟨_, g2, g3⟩ := World.cells?_some g1
        have g4 := (hag ⟨i, hi⟩).2
        refine ⟨by rw [← Array.length_toList, g4, g2, hsz], fun j c hj => ?_⟩
        rw [g4] at hj
        have hjl : j < P.cellsOf e := by rw [← g2]; exact (List.getElem?_eq_some_iff.1 hj).1
        have := g3 j hjl
        rw [hj] at this
        exact this
       ·cases hv) rfl
     refine ⟨_, h1, h2, ?_, fun _ => ⟨_, _, rfl, rfl⟩⟩
     simp only [Typed, hu]
     refine ⟨List.ofFn fun i => (f i).2, by simp; omega, fun p hp => ?_, rfl⟩
     obtain ⟨i, rfl⟩ := List.mem_ofFn.1 hp
     exact (hf i).2.2.2.1
   case struct fs =>
    obtain ⟨xs, m, hm, _, hcl, hxl, hxf⟩ := DataW.trod_struct hu h
    cases hm
    simp only [Bool.and_eq_true] at hc
    obtain ⟨htile, hfs⟩ := hc
    have key : ∀ (l : List Field) (off k : Nat), (∀ i, l[i]? = fs[k + i]?) → tilesB P (P.cellsOf t) l off = true → ∃ ds, relAll (readS W) ds (cs.drop off) ∧ ones (cs.drop off) ∧ TypedFs (Typed P n) l ds := by
     intro l
     induction l with
     | nil =>
      intro off k _ ht'
      simp only [tilesB, beq_iff_eq] at ht'
      subst ht'
      rw [← hcl, List.drop_length]
      exact ⟨[], relAll_nil, fun v hv => by simp at hv, rfl⟩
     | cons g l ihl =>
      intro off k hl ht'
      simp only [tilesB, Bool.and_eq_true, beq_iff_eq] at ht'
      obtain ⟨rfl, ht'⟩ := ht'
      have hg : fs[k]? = some g := by have := hl 0; simpa using this.symm
      have hlt : k < fs.size := (Array.getElem?_eq_some_iff.1 hg).1
      have hx := hxf k g hg
      rw [List.getElem?_eq_getElem (by omega)] at hx
      have hmem : g ∈ fs.toList := by
       obtain ⟨h1, h2⟩ := Array.getElem?_eq_some_iff.1 hg
       rw [← h2]; exact Array.mem_toList_iff.2 (Array.getElem_mem h1)
      obtain ⟨d1, r1, r2, r3, _⟩ := ih g.type _ _ (any_mem (List.all_eq_true.1 hfs g hmem)) hx
      obtain ⟨d2, q1, q2, q3⟩ := ihl (g.offset + P.cellsOf g.type) (k + 1) (fun i => by have := hl (i + 1); simpa [Nat.add_assoc, Nat.add_comm 1 i] using this) ht'
      have hsp : cs.drop g.offset = (cs.drop g.offset).take (P.cellsOf g.type) ++ cs.drop (g.offset + P.cellsOf g.type) := by
       rw [← List.drop_drop, List.take_append_drop]
      rw [hsp]
      exact ⟨d1 ++ d2, relAll_append r1 q1, fun v hv => by
       rcases List.mem_append.1 hv with hv | hv
       ·exact r2 v hv
       ·exact q2 v hv, d1, d2, rfl, r3, q3⟩
    obtain ⟨ds, h1, h2, h3⟩ := key fs.toList 0 0 (fun i => by simp) htile
    rw [List.drop_zero] at h1 h2
    refine ⟨ds, h1, h2, by simp only [Typed, hu]; exact h3, fun hag => ?_⟩
    simp only [isAggT, hu] at hag
    cases hag
theorem one_arg {S : List TypeId} (hS : closedB P S = true) {t : TypeId} {v : Value} {d : DataW H} {p : List MemPlace} (ht : t ∈ S) (hag : isAggT P t = false) (hv : v.oneCell' = true) (h : DataW.Trod enc P W base spare held t v d p) :
  ∃ n d', Typed P n t [d'] ∧ rel (readS W) d' v := by
 obtain ⟨n, h⟩ := h
 obtain ⟨ds, h1, _, h3, h4⟩ := cells_read hS n t _ _ ht h
 obtain ⟨c, d', hc, rfl⟩ := h4 hag
 rw [cells_of_one hv] at h1
 simp only [relAll] at h1
 obtain ⟨v', r, hvr, hrel, _⟩ := h1
 simp only [List.cons.injEq] at hvr
 obtain ⟨rfl, _⟩ := hvr
 exact ⟨n, d', h3, hrel⟩
theorem agg_arg {S : List TypeId} (hS : closedB P S = true) {t : TypeId} {cs : Array Value} {d : DataW H} {p : List MemPlace} (ht : t ∈ S) (h : DataW.Trod enc P W base spare held t (.agg cs) d p) :
  ∃ n ds, Typed P n t ds ∧ rel (readS W) (.agg ds) (.agg cs) := by
 obtain ⟨n, h⟩ := h
 obtain ⟨ds, h1, h2, h3, _⟩ := cells_read hS n t _ _ ht h
 refine ⟨n, ds, h3, ?_⟩
 simp only [rel]
 exact ⟨cs.toList, by simp, by simpa [Value.cells] using h1, by simpa [Value.cells] using h2⟩
end
section
variable {P : Program} {n : Nat} {t e : TypeId} {d : D} {ds : List D}
theorem wf_i64 {i : Int} (h : (Lit.int .i64 i).wf = true) : -9223372036854775808 ≤ i ∧ i ≤ 9223372036854775807 := by
 simp only [Lit.wf, Bool.and_eq_true, decide_eq_true_eq] at h
 exact h
theorem typed_int (hu : P.underlying t = some (.int .i64)) (h : Typed P n t ds) : ∃ i : Int, ds = [.int .i64 i] ∧ -9223372036854775808 ≤ i ∧ i ≤ 9223372036854775807 := by
 cases n with
 | zero => exact h.elim
 | succ n =>
  simp only [Typed, hu] at h
  obtain ⟨i, h1, h2⟩ := h
  exact ⟨i, h1, wf_i64 h2⟩
theorem typed_str (hu : P.underlying t = some .string) (h : Typed P n t ds) : ∃ s : ByteArray, ds = [.str s] ∧ s.size ≤ maxLen := by
 cases n with
 | zero => exact h.elim
 | succ n => simpa only [Typed, hu] using h
theorem typed_slice (hu : P.underlying t = some (.slice e)) (h : Typed P n t ds) : ∃ (m : Nat) (parts : List (List D)), n = m + 1 ∧ parts.length ≤ maxLen ∧ (∀ p ∈ parts, Typed P m e p) ∧ ds = [.rsl false (sizeT P e) (parts.map (elD (isAggT P e)))] := by
 cases n with
 | zero => exact h.elim
 | succ n =>
  simp only [Typed, hu] at h
  obtain ⟨parts, h1, h2, h3⟩ := h
  exact ⟨n, parts, rfl, h1, h2, h3⟩
theorem typed_struct {fs : Array Field} (hu : P.underlying t = some (.struct fs)) (h : Typed P n t ds) : ∃ m, n = m + 1 ∧ TypedFs (Typed P m) fs.toList ds := by
 cases n with
 | zero => exact h.elim
 | succ n => exact ⟨n, rfl, by simpa only [Typed, hu] using h⟩
theorem list_of_parts {α : Type} {good : List D → Prop} {f : α → List D} {q : α → Prop} (h : ∀ p, good p → ∃ x, p = f x ∧ q x) : ∀ (parts : List (List D)), (∀ p ∈ parts, good p) → ∃ l : List α, parts = l.map f ∧ (∀ x ∈ l, q x)
 | [], _ => ⟨[], rfl, by simp⟩
 | p :: parts, hp => by
  obtain ⟨x, hx, hq⟩ := h p (hp p (by simp))
  obtain ⟨l, hl, hq'⟩ := list_of_parts h parts (fun p' hp' => hp p' (by simp [hp']))
  exact ⟨x :: l, by simp [hx, hl], by simp; exact ⟨hq, hq'⟩⟩
end
end Go.Proofs.YtkhjpcmpljpmjaaGreatDoor.Abs
