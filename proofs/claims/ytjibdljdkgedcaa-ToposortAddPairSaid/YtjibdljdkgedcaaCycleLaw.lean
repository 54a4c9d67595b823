/-
  Cycle finds the first of the shortest cycles. Plain Lean.
-/
import Derived.Test.YtjibdljdkgedcaaReachLaw
import Derived.Test.YtjibdljdkgedcaaCycle
namespace Go.Proofs.Ytjibdljdkgedcaa
open Abs
namespace Topo
/-- The first of the first n places whose list isn't empty. -/
def firstNE (n : Nat) (f : Nat → List Nat) : List Nat := match (List.range n).find? (fun p => !(f p).isEmpty) with
  | none => []
  | some p => f p
def closingR (l : List Pr) (n : Nat) : Nat → List Nat → List Nat
  | 0, row => if pairB l (row.getLastD 0 : Nat) (row.headD 0 : Nat) = true then row else []
  | k + 1, row => firstNE n fun p => if (pairB l (row.getLastD 0 : Nat) (p : Nat) && !inL row p) = true then closingR l n k (row ++ [p]) else []
def circleR (n : Nat) (l : List Pr) : List Nat := firstNE n fun len => firstNE n fun k => closingR l n len [k]
theorem firstNE_none {n : Nat} {f : Nat → List Nat} (h : ∀ p, p < n → f p = []) : firstNE n f = [] := by
  unfold firstNE
  rw [find_none fun q hq => by rw [h q hq]; rfl]
theorem firstNE_some {n p : Nat} {f : Nat → List Nat} (hp : p < n) (hf : f p ≠ []) (h : ∀ q, q < p → f q = []) : firstNE n f = f p := by
  unfold firstNE
  rw [find_some hp (by cases hfp : f p with | nil => exact absurd hfp hf | cons => rfl) fun q hq => by rw [h q hq]; rfl]
theorem firstNE_ex {n : Nat} {f : Nat → List Nat} (h : firstNE n f ≠ []) : ∃ p, p < n ∧ f p ≠ [] ∧ firstNE n f = f p := by
  unfold firstNE at h ⊢
  cases hf : (List.range n).find? (fun p => !(f p).isEmpty) with
  | none => rw [hf] at h; exact absurd rfl h
  | some p =>
    obtain ⟨h1, h2, _⟩ := List.find?_range_eq_some.1 hf
    refine ⟨p, by simpa using h2, ?_, rfl⟩
    intro e
    rw [e] at h1; simp at h1
theorem head_app (row : List Nat) (p : Nat) (h : row ≠ []) : (row ++ [p]).headD 0 = row.headD 0 := by
  cases row with
  | nil => exact absurd rfl h
  | cons a l => rfl
theorem last_app (row : List Nat) (p : Nat) : (row ++ [p]).getLastD 0 = p := by
  rw [List.getLastD_eq_getLast?, List.getLast?_append]; rfl
/-- What closing finds is a closed walk. -/
theorem closing_path {l : List Pr} {n : Nat} : ∀ (k : Nat) (row : List Nat), row ≠ [] → closingR l n k row ≠ [] → Path l (k + 1) (row.getLastD 0) (row.headD 0)
  | 0, row, _, h => by
    simp only [closingR] at h
    split at h
    · rename_i hp; exact path_one ((pairB_iff l _ _).1 hp)
    · exact absurd rfl h
  | k + 1, row, hr, h => by
    simp only [closingR] at h
    obtain ⟨p, hp, h1, _⟩ := firstNE_ex h
    split at h1
    · rename_i hc
      rw [Bool.and_eq_true] at hc
      have := closing_path k (row ++ [p]) (by simp) h1
      rw [last_app, head_app row p hr] at this
      exact ⟨p, (pairB_iff l _ _).1 hc.1, this⟩
    · exact absurd rfl h1
/-- The start of a walk along a shortest cycle: L steps in all, k places still to come. -/
structure Good (l : List Pr) (n L s k : Nat) (row : List Nat) : Prop where
  ne : row ≠ []
  head : row.headD 0 = s
  len : row.length + k = L
  edge : ∀ i, (h : i + 1 < row.length) → adj l row[i] row[i + 1]
  rest : Path l (k + 1) (row.getLastD 0) s
theorem last_get {row : List Nat} (h : row ≠ []) : ∃ h' : row.length - 1 < row.length, row.getLastD 0 = row[row.length - 1] := by
  have hl : 0 < row.length := List.length_pos_iff.2 h
  refine ⟨by omega, ?_⟩
  rw [List.getLastD_eq_getLast?, List.getLast?_eq_getElem?, List.getElem?_eq_getElem (by omega)]; rfl
theorem good_path {l : List Pr} {row : List Nat} (he : ∀ i, (h : i + 1 < row.length) → adj l row[i] row[i + 1]) : ∀ (d i : Nat) (h : i + d < row.length), Path l d row[i] row[i + d]
  | 0, i, h => rfl
  | d + 1, i, h => by
    refine ⟨row[i + 1]'(by omega), he i (by omega), ?_⟩
    have := good_path he d (i + 1) (by omega)
    simpa only [show i + 1 + d = i + (d + 1) by omega] using this
/-- All closed walks have at least L steps. -/
def Least (l : List Pr) (L : Nat) : Prop := ∀ m a, 1 ≤ m → Path l m a a → L ≤ m
theorem good_nodup {l : List Pr} {n L s k : Nat} {row : List Nat} (hL : Least l L) (h : Good l n L s k row) : ∀ i j, (hj : j < row.length) → (hij : i < j) → row[i]'(by omega) ≠ row[j] := by
  intro i j hj hij e
  have p := good_path h.edge (j - i) i (by omega)
  simp only [show i + (j - i) = j by omega] at p
  rw [← e] at p
  have := hL _ _ (by omega) p
  have := h.len
  omega
theorem head_get {row : List Nat} (h : row ≠ []) : ∃ h' : 0 < row.length, row.headD 0 = row[0] := by
  cases row with
  | nil => exact absurd rfl h
  | cons a l => exact ⟨by simp, rfl⟩
theorem good_first {l : List Pr} {n L s k : Nat} {row : List Nat} (h : Good l n L s k row) : Path l (row.length - 1) s (row.getLastD 0) := by
  obtain ⟨h1, h2⟩ := last_get h.ne
  obtain ⟨h3, h4⟩ := head_get h.ne
  have p := good_path h.edge (row.length - 1) 0 (by omega)
  simp only [Nat.zero_add] at p
  rw [h2, ← h.head, h4]; exact p
/-- The next place of the walk. -/
theorem good_next {l : List Pr} {n L s k p : Nat} {row : List Nat} (h : Good l n L s (k + 1) row) (ha : adj l (row.getLastD 0) p) (hp : Path l (k + 1) p s) : Good l n L s k (row ++ [p]) := by
  obtain ⟨h1, h2⟩ := last_get h.ne
  refine ⟨by simp, by rw [head_app row p h.ne]; exact h.head, by have := h.len; simp; omega, fun i hi => ?_, by rw [last_app]; exact hp⟩
  have hi' : i + 1 < row.length + 1 := by simpa using hi
  by_cases e : i + 1 < row.length
  · rw [List.getElem_append_left (by omega), List.getElem_append_left e]; exact h.edge i e
  · have e2 : i = row.length - 1 := by omega
    subst e2
    rw [List.getElem_append_left (by omega), ← h2]
    have : (row ++ [p])[row.length - 1 + 1]'hi = p := by
      rw [List.getElem_append_right (by omega)]; simp
    rw [this]; exact ha
theorem not_in_row {l : List Pr} {n L s k p : Nat} {row : List Nat} (hL : Least l L) (h : Good l n L s (k + 1) row) (ha : adj l (row.getLastD 0) p) : inL row p = false := by
  cases hi : inL row p with
  | false => rfl
  | true =>
    obtain ⟨h1, h2⟩ := last_get h.ne
    obtain ⟨i, hi, e⟩ := List.mem_iff_getElem.1 ((inL_mem row p).1 hi)
    have q := good_path h.edge (row.length - 1 - i) i (by omega)
    simp only [show i + (row.length - 1 - i) = row.length - 1 by omega] at q
    rw [← h2, e] at q
    have := hL _ _ (by omega) (path_add q (path_one ha))
    have := h.len
    omega
section
variable {n : Nat} (hn : n ≤ 16) {l : List Pr} (hl : okL n l)
include hn hl
theorem onC_iff {L s k p : Nat} {row : List Nat} (hL : Least l L) (h : Good l n L s (k + 1) row) (hp : p < n) (hs : s < n) :
    onC (edges l) (farL (edges l) n) s (row.getLastD 0) ((k + 1 : Nat) : Int) p = true ↔ adj l (row.getLastD 0) p ∧ Path l (k + 1) p s := by
  have hb2 : ∀ p ∈ l, p.1.toNat < 16 ∧ p.2.toNat < 16 := fun p hp => by
    have := (okP_iff n p).1 (hl p hp); omega
  have hbit : ((edges l).getD (row.getLastD 0) 0).testBit p = true ↔ adj l (row.getLastD 0) p := by
    rw [edges_bit l hb2 _ p (by omega), List.any_eq_true]
    constructor
    · rintro ⟨q, hq, h⟩
      have h : q.1.toNat = row.getLastD 0 ∧ q.2.toNat = p := by simpa using h
      have := (okP_iff n q).1 (hl q hq)
      exact ⟨q, hq, by omega, by omega⟩
    · rintro ⟨q, hq, h1, h2⟩
      exact ⟨q, hq, by simp only [decide_eq_true_eq]; omega⟩
  have hst := far_stage hn hl
  have hL16 : L ≤ n := by
    obtain ⟨m, h1, h2, _, h4⟩ := path_short hl _ (by omega) (path_add (good_first h) h.rest)
    exact Nat.le_trans (hL m s h1 h4) h2
  have hlen := h.len
  have hpos : 0 < row.length := List.length_pos_iff.2 h.ne
  unfold onC
  rw [Bool.and_eq_true, hbit, decide_eq_true_iff]
  refine and_congr_right fun ha => ?_
  show at2 (farL (edges l) n) p s = ((k + 1 : Nat) : Int) ↔ _
  constructor
  · intro e
    have := hst.path p s hp hs (by omega)
    rwa [e, Int.toNat_natCast] at this
  · intro hpath
    have h1 := far_least hn hl (by omega) hpath
    have h2 := hst.pos p s hp hs
    have h3 := hst.path p s hp hs (by omega)
    have h4 := hL _ _ (by omega) (path_add (good_first h) (path_add (path_one ha) h3))
    omega
theorem walk_good {L s : Nat} (hL : Least l L) (hs : s < n) : ∀ (k : Nat) (row : List Nat), Good l n L s k row →
    Good l n L s 0 (walkC (edges l) (farL (edges l) n) n s k row) ∧ closingR l n k row = walkC (edges l) (farL (edges l) n) n s k row
  | 0, row, h => by
    refine ⟨h, ?_⟩
    simp only [closingR, walkC]
    obtain ⟨c, h1, h2⟩ := h.rest
    have h2 : c = s := h2
    rw [h.head, if_pos ((pairB_iff l _ _).2 (h2 ▸ h1))]
  | k + 1, row, h => by
    obtain ⟨c, h1, h2⟩ := h.rest
    have hc : c < n := (adj_lt hl h1).2
    simp only [walkC]
    have hon := fun p (hp : p < n) => onC_iff hn hl (p := p) hL h hp hs
    cases hf : (List.range n).find? (onC (edges l) (farL (edges l) n) s (row.getLastD 0) ((k + 1 : Nat) : Int)) with
    | none =>
      rw [List.find?_eq_none] at hf
      exact absurd ((hon c hc).2 ⟨h1, h2⟩) (by simpa using hf c (List.mem_range.2 hc))
    | some p =>
      obtain ⟨g1, g2, g3⟩ := List.find?_range_eq_some.1 hf
      have hp : p < n := by simpa using g2
      obtain ⟨a1, a2⟩ := (hon p hp).1 g1
      have hg := good_next h a1 a2
      obtain ⟨i1, i2⟩ := walk_good hL hs k _ hg
      refine ⟨i1, ?_⟩
      simp only [closingR]
      have hfp : (if (pairB l (row.getLastD 0 : Nat) (p : Nat) && !inL row p) = true then closingR l n k (row ++ [p]) else []) = closingR l n k (row ++ [p]) := by
        rw [if_pos]
        rw [(pairB_iff l _ _).2 a1, not_in_row hL h a1]; rfl
      rw [firstNE_some (p := p) hp, hfp, i2]
      · rw [hfp, i2]; exact i1.ne
      · intro q hq
        split
        · rename_i hc2
          apply Classical.byContradiction
          intro hne
          rw [Bool.and_eq_true] at hc2
          have hp2 := closing_path k _ (by simp) hne
          rw [last_app, head_app row q h.ne, h.head] at hp2
          have hq2 := g3 q (by simpa using hq)
          have := (hon q (by omega)).2 ⟨(pairB_iff l _ _).1 hc2.1, hp2⟩
          rw [this] at hq2; cases hq2
        · rfl
end
/-- The least of the places on the shortest cycles. -/
theorem startI_spec (d : List Int) (n : Nat) : ∀ p, (startI d n p < 0 → ∀ q, q < p → ¬ at2 d q q ≤ n) ∧
    (0 ≤ startI d n p → at2 d (startI d n p).toNat (startI d n p).toNat ≤ n ∧ (∀ q, q < p → at2 d (startI d n p).toNat (startI d n p).toNat ≤ at2 d q q) ∧ ∀ q, q < (startI d n p).toNat → at2 d (startI d n p).toNat (startI d n p).toNat < at2 d q q)
  | 0 => by simp [startI]
  | p + 1 => by
    obtain ⟨h1, h2⟩ := startI_spec d n p
    have hb := startI_bounds d n p
    by_cases hc : d.getD (p * 16 + p) 0 ≤ n ∧ (startI d n p < 0 ∨ d.getD (p * 16 + p) 0 < d.getD ((startI d n p).toNat * 16 + (startI d n p).toNat) 0)
    · have e : startI d n (p + 1) = p := by simp only [startI]; rw [if_pos hc]
      have hc1 : at2 d p p ≤ n := hc.1
      rw [e]
      refine ⟨fun h => by omega, fun _ => ?_⟩
      rw [Int.toNat_natCast]
      refine ⟨hc1, fun q hq => ?_, fun q hq => ?_⟩
      · by_cases eq : q = p
        · subst eq; exact Int.le_refl _
        · rcases hc.2 with hneg | hlt
          · have := h1 hneg q (by omega); omega
          · by_cases hneg : startI d n p < 0
            · have := h1 hneg q (by omega); omega
            · have := (h2 (by omega)).2.1 q (by omega)
              have hlt : at2 d p p < at2 d (startI d n p).toNat (startI d n p).toNat := hlt
              omega
      · rcases hc.2 with hneg | hlt
        · have := h1 hneg q (by omega); omega
        · by_cases hneg : startI d n p < 0
          · have := h1 hneg q (by omega); omega
          · have := (h2 (by omega)).2.1 q (by omega)
            have hlt : at2 d p p < at2 d (startI d n p).toNat (startI d n p).toNat := hlt
            omega
    · have e : startI d n (p + 1) = startI d n p := by simp only [startI]; rw [if_neg hc]
      rw [e]
      refine ⟨fun hneg q hq => ?_, fun h0 => ?_⟩
      · by_cases eq : q = p
        · subst eq
          intro hle
          exact hc ⟨hle, .inl hneg⟩
        · exact h1 hneg q (by omega)
      · obtain ⟨a1, a2, a3⟩ := h2 h0
        refine ⟨a1, fun q hq => ?_, a3⟩
        by_cases eq : q = p
        · subst eq
          apply Classical.byContradiction
          intro hlt
          refine hc ⟨?_, .inr ?_⟩
          · have : at2 d q q ≤ n := by omega
            exact this
          · have : at2 d q q < at2 d (startI d n q).toNat (startI d n q).toNat := by omega
            exact this
        · exact a2 q (by omega)
theorem getD_get {c : List Nat} {i : Nat} (h : i < c.length) : c.getD i 0 = c[i] := by
  rw [List.getD_eq_getElem?_getD, List.getElem?_eq_getElem h]; rfl
/-- What the law checks of a cycle. -/
def CycOK (n : Nat) (l : List Pr) (c : List Nat) : Prop :=
  (c = [] ↔ Acyc l) ∧ (∀ i, i < c.length → adj l (c.getD i 0) (c.getD ((i + 1) % c.length) 0)) ∧
    (∀ i j, i < j → j < c.length → c.getD i 0 ≠ c.getD j 0) ∧ (∀ x ∈ c, x < n) ∧ c.length ≤ n
/-- Cycle against the reference's Circle; what the law checks of a cycle. -/
theorem cycle_law {n : Nat} (hn : n ≤ 16) {l : List Pr} (hl : okL n l) : circleR n l = cycleG (edges l) n ∧ CycOK n l (cycleG (edges l) n) := by
  have hst := far_stage hn hl
  obtain ⟨s1, s2⟩ := startI_spec (farL (edges l) n) n n
  have hb := startI_bounds (farL (edges l) n) n n
  by_cases hneg : startI (farL (edges l) n) n n < 0
  · have hac : Acyc l := by
      intro m a hp
      obtain ⟨k, h1, h2, _, h4⟩ := path_short hl (m + 1) (by omega) hp
      have ha : a < n := by
        obtain ⟨c, hc, _⟩ := hp; exact (adj_lt hl hc).1
      have := far_least hn hl h1 h4
      exact s1 hneg a ha (by omega)
    have he : cycleG (edges l) n = [] := by unfold cycleG; rw [if_pos hneg]
    have hci : circleR n l = [] := by
      unfold circleR
      refine firstNE_none fun len _ => firstNE_none fun k _ => ?_
      apply Classical.byContradiction
      intro hne
      exact hac len k (closing_path len [k] (by simp) hne)
    rw [he, hci]
    exact ⟨rfl, by simp [hac], fun i h => by simp at h, fun i j _ h => by simp at h, fun x h => by simp at h, by simp⟩
  · obtain ⟨a1, a2, a3⟩ := s2 (by omega)
    generalize hs : (startI (farL (edges l) n) n n).toNat = s at *
    have hsn : s < n := by omega
    have hpos := hst.pos s s hsn hsn
    obtain ⟨L, hL⟩ : ∃ L : Nat, at2 (farL (edges l) n) s s = L := ⟨(at2 (farL (edges l) n) s s).toNat, by omega⟩
    have hpath := hst.path s s hsn hsn (by omega)
    rw [hL, Int.toNat_natCast] at hpath
    have hleast : Least l L := by
      intro m a hm hp
      have ha : a < n := by
        obtain ⟨k, rfl⟩ : ∃ k, m = k + 1 := ⟨m - 1, by omega⟩
        obtain ⟨c, hc, _⟩ := hp; exact (adj_lt hl hc).1
      have h1 := far_least hn hl hm hp
      have h2 := a2 a ha
      omega
    have hgood : Good l n L s (L - 1) [s] := by
      refine ⟨by simp, rfl, by simp; omega, fun i h => by simp at h, ?_⟩
      rw [show L - 1 + 1 = L by omega]; exact hpath
    obtain ⟨g1, g2⟩ := walk_good hn hl hleast hsn (L - 1) [s] hgood
    have he : cycleG (edges l) n = walkC (edges l) (farL (edges l) n) n s (L - 1) [s] := by
      unfold cycleG
      rw [if_neg hneg, hs]
      have : (farL (edges l) n).getD (s * 16 + s) 0 = at2 (farL (edges l) n) s s := rfl
      rw [this, hL]
      rw [show ((L : Int) - 1).toNat = L - 1 by omega]
    have hci : circleR n l = walkC (edges l) (farL (edges l) n) n s (L - 1) [s] := by
      unfold circleR
      have hne : closingR l n (L - 1) [s] ≠ [] := by rw [g2]; exact g1.ne
      have h1 : firstNE n (fun k => closingR l n (L - 1) [k]) = closingR l n (L - 1) [s] := by
        refine firstNE_some (f := fun k => closingR l n (L - 1) [k]) hsn hne fun q hq => ?_
        apply Classical.byContradiction
        intro hq2
        have hp : Path l (L - 1 + 1) q q := closing_path (L - 1) [q] (by simp) hq2
        have := far_least hn hl (by omega) hp
        have h4 := a3 q hq
        omega
      rw [firstNE_some (f := fun len => firstNE n fun k => closingR l n len [k]) (p := L - 1) (by omega), h1, g2]
      · rw [h1]; exact hne
      · intro len hlen
        refine firstNE_none fun k _ => ?_
        apply Classical.byContradiction
        intro hne2
        have hp : Path l (len + 1) k k := closing_path len [k] (by simp) hne2
        have := hleast _ _ (by omega) hp
        omega
    rw [he, hci]
    generalize walkC (edges l) (farL (edges l) n) n s (L - 1) [s] = c at *
    have hclen : c.length = L := by have := g1.len; omega
    have hnac : ¬ Acyc l := by
      intro hac
      refine hac (L - 1) s ?_
      rw [show L - 1 + 1 = L by omega]; exact hpath
    refine ⟨rfl, ⟨fun e => absurd e g1.ne, fun h => absurd h hnac⟩, fun i h => ?_, fun i j hij hj => ?_, fun x hx => ?_, by omega⟩
    · by_cases hlt : i + 1 < c.length
      · rw [Nat.mod_eq_of_lt hlt, getD_get h, getD_get hlt]
        exact g1.edge i hlt
      · have hi : i = c.length - 1 := by omega
        rw [show i + 1 = c.length by omega, Nat.mod_self]
        obtain ⟨h1, h2⟩ := last_get g1.ne
        obtain ⟨h3, h4⟩ := head_get g1.ne
        obtain ⟨x, hx1, hx2⟩ := g1.rest
        have hx2 : x = s := hx2
        subst hi
        rw [getD_get h, getD_get h3, ← h2, ← h4, g1.head, ← hx2]; exact hx1
    · rw [getD_get (by omega), getD_get hj]
      exact good_nodup hleast g1 i j hj hij
    · obtain ⟨i, hi, e⟩ := List.mem_iff_getElem.1 hx
      by_cases hlt : i + 1 < c.length
      · have := (adj_lt hl (g1.edge i hlt)).1
        rw [e] at this; exact this
      · obtain ⟨h1, h2⟩ := last_get g1.ne
        obtain ⟨y, hx1, _⟩ := g1.rest
        have := (adj_lt hl hx1).1
        rw [h2] at this
        have hi2 : i = c.length - 1 := by omega
        subst hi2
        rw [← e]; exact this
end Topo
end Go.Proofs.Ytjibdljdkgedcaa
