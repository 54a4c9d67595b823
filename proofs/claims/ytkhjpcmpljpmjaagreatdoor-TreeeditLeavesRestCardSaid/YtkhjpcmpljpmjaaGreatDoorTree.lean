/-
 Trees of units as plain data, and as abstract values. No condition.
-/
import Derived.Test.YtkhjpcmpljpmjaaGreatDoorLayD
import Derived.Test.YtkhjpcmpljpmjaaGreatDoorFacts
set_option linter.unusedSimpArgs false
set_option linter.unusedVariables false
namespace Go.Proofs.YtkhjpcmpljpmjaaGreatDoor
open Abs
namespace Tr
structure Idv where
 act : Int
 item : Int
 n : Int
instance : DecidableEq Idv := fun a b => decidable_of_iff (a.act = b.act ∧ a.item = b.item ∧ a.n = b.n) ⟨fun ⟨h1, h2, h3⟩ => by cases a; cases b; simp_all, fun h => by subst h; exact ⟨rfl, rfl, rfl⟩⟩
def Idv.zero : Idv := ⟨0, 0, 0⟩
structure Wd where
 text : ByteArray
 by_ : Idv
instance : DecidableEq Wd := fun a b => decidable_of_iff (a.text = b.text ∧ a.by_ = b.by_) ⟨fun ⟨h1, h2⟩ => by cases a; cases b; simp_all, fun h => by subst h; exact ⟨rfl, rfl⟩⟩
inductive T where
 | mk (id : Idv) (kind : Int) (label : ByteArray) (head words : List Wd) (kids : List T)
def T.id : T → Idv | .mk i _ _ _ _ _ => i
def T.kind : T → Int | .mk _ k _ _ _ _ => k
def T.label : T → ByteArray | .mk _ _ l _ _ _ => l
def T.head : T → List Wd | .mk _ _ _ h _ _ => h
def T.words : T → List Wd | .mk _ _ _ _ w _ => w
def T.kids : T → List T | .mk _ _ _ _ _ k => k
theorem T.eta (t : T) : T.mk t.id t.kind t.label t.head t.words t.kids = t := by cases t; rfl
mutual
theorem ind1 {p : T → Prop} (h : ∀ t, (∀ k ∈ t.kids, p k) → p t) : ∀ t, p t
 | .mk i k l a b ks => h (.mk i k l a b ks) (ind2 h ks)
theorem ind2 {p : T → Prop} (h : ∀ t, (∀ k ∈ t.kids, p k) → p t) : ∀ (ks : List T), ∀ k ∈ ks, p k
 | [], k, hk => by cases hk
 | t :: ts, k, hk => by
  rcases List.mem_cons.1 hk with e | hk
  ·rw [e]; exact ind1 h t
  ·exact ind2 h ts k hk
end
mutual
def recT {β : Type} (f : T → List β → β) : T → β
 | .mk i k l a b ks => f (.mk i k l a b ks) (recL f ks)
def recL {β : Type} (f : T → List β → β) : List T → List β
 | [] => []
 | t :: ts => recT f t :: recL f ts
end
theorem recL_eq {β : Type} (f : T → List β → β) : ∀ ks, recL f ks = ks.map (recT f)
 | [] => rfl
 | t :: ts => by simp [recL, recL_eq f ts]
theorem recT_eq {β : Type} (f : T → List β → β) (t : T) : recT f t = f t (t.kids.map (recT f)) := by
 cases t with
 | mk i k l a b ks => rw [recT, recL_eq]; rfl
end Tr
namespace Abs
open Tr
def cellsId (i : Idv) : List D := [.int .i64 i.act, .int .i64 i.item, .int .i64 i.n]
def encId (i : Idv) : D := .agg (cellsId i)
def encIds (l : List Idv) : D := .rsl false 3 (l.map encId)
def cellsWd (w : Wd) : List D := [.str w.text, .int .i64 w.by_.act, .int .i64 w.by_.item, .int .i64 w.by_.n]
def encWd (w : Wd) : D := .agg (cellsWd w)
def encWs (l : List Wd) : D := .rsl false 4 (l.map encWd)
def cellsF6 (t : T) (ks : List (List D)) : List D := [.int .i64 t.id.act, .int .i64 t.id.item, .int .i64 t.id.n, .int .i64 t.kind, .str t.label, encWs t.head, encWs t.words, .rsl false 8 (ks.map .agg)]
def cellsU (t : T) : List D := recT cellsF6 t
def encU (t : T) : D := .agg (cellsU t)
def encUs (l : List T) : D := .rsl false 8 (l.map encU)
theorem cellsU_eq (t : T) : cellsU t = [.int .i64 t.id.act, .int .i64 t.id.item, .int .i64 t.id.n, .int .i64 t.kind, .str t.label, encWs t.head, encWs t.words, encUs t.kids] := by
 unfold cellsU
 rw [recT_eq, cellsF6, List.map_map]; rfl
@[go_sem] theorem cellsU_length (t : T) : (cellsU t).length = 8 := by rw [cellsU_eq]; rfl
@[go_sem] theorem cellsU_kind (t : T) : (cellsU t)[3]? = some (.int .i64 t.kind) := by rw [cellsU_eq]; rfl
@[go_sem] theorem cellsU_label (t : T) : (cellsU t)[4]? = some (.str t.label) := by rw [cellsU_eq]; rfl
@[go_sem] theorem cellsU_head (t : T) : (cellsU t)[5]? = some (encWs t.head) := by rw [cellsU_eq]; rfl
@[go_sem] theorem cellsU_words (t : T) : (cellsU t)[6]? = some (encWs t.words) := by rw [cellsU_eq]; rfl
@[go_sem] theorem cellsU_kids (t : T) : (cellsU t)[7]? = some (encUs t.kids) := by rw [cellsU_eq]; rfl
@[go_sem] theorem cellsU_id (t : T) : List.take 3 (cellsU t) = [.int .i64 t.id.act, .int .i64 t.id.item, .int .i64 t.id.n] := by rw [cellsU_eq]; rfl
@[go_sem] theorem cellsU_take (t : T) : List.take 8 (cellsU t) = cellsU t := List.take_of_length_le (by rw [cellsU_length]; exact Nat.le_refl _)
@[go_sem] theorem splice_cellsU (a b c d e f g h : D) (t : T) : splice [a, b, c, d, e, f, g, h] 0 (cellsU t) = cellsU t := by
 rw [cellsU_eq]; rfl
@[go_sem] theorem encU_agg (t : T) : encU t = .agg (cellsU t) := rfl
@[go_sem] theorem encWd_agg (w : Wd) : encWd w = .agg [.str w.text, .int .i64 w.by_.act, .int .i64 w.by_.item, .int .i64 w.by_.n] := rfl
@[go_sem] theorem encId_agg (i : Idv) : encId i = .agg [.int .i64 i.act, .int .i64 i.item, .int .i64 i.n] := rfl
theorem pure_encWs (l : List Wd) : pureD (encWs l) = true := by simp only [encWs, pureD]; exact pureL_map (fun _ => rfl) l
theorem pure_encIds (l : List Idv) : pureD (encIds l) = true := by simp only [encIds, pureD]; exact pureL_map (fun _ => rfl) l
theorem pureL_of {f : T → D} : ∀ {l : List T}, (∀ t ∈ l, pureD (f t) = true) → pureD.pureL (l.map f) = true
 | [], _ => rfl
 | t :: l, h => by
  simp only [List.map_cons, pureD.pureL, Bool.and_eq_true]
  exact ⟨h t (by simp), pureL_of fun k hk => h k (List.mem_cons_of_mem _ hk)⟩
theorem pure_encU : ∀ t, pureD (encU t) = true := by
 refine ind1 fun t ih => ?_
 rw [encU, cellsU_eq]
 have hk : pureD (encUs t.kids) = true := by simp only [encUs, pureD]; exact pureL_of ih
 simp only [pureD, pureD.pureL, Bool.true_and, Bool.and_true, pure_encWs, hk]
theorem pure_cellsU (t : T) : pureD.pureL (cellsU t) = true := by have := pure_encU t; simpa only [encU, pureD] using this
theorem pure_encUs (l : List T) : pureD (encUs l) = true := by simp only [encUs, pureD]; exact pureL_map pure_encU l
@[go_sem] theorem pureL_encU (l : List T) : pureD.pureL (l.map encU) = true := pureL_map pure_encU l
@[go_sem] theorem pureL_encWd (l : List Wd) : pureD.pureL (l.map encWd) = true := pureL_map (fun _ => rfl) l
@[go_sem] theorem pureL_encId (l : List Idv) : pureD.pureL (l.map encId) = true := pureL_map (fun _ => rfl) l
attribute [go_sem] pure_cellsU
@[go_sem] theorem idEq (i j : Idv) : (decide (i.act = j.act) && (decide (i.item = j.item) && decide (i.n = j.n))) = decide (i = j) := by
 obtain ⟨a, b, c⟩ := i; obtain ⟨a', b', c'⟩ := j
 rw [Bool.eq_iff_iff]; simp [Idv.mk.injEq]
@[go_sem] theorem idEq' (i j : Idv) : (decide (i.act = j.act) && decide (i.item = j.item) && decide (i.n = j.n)) = decide (i = j) := by rw [Bool.and_assoc, idEq]
@[go_sem] theorem idZ (i : Idv) : (decide (i.act = 0) && (decide (i.item = 0) && decide (i.n = 0))) = decide (i = Idv.zero) := idEq i Idv.zero
@[go_sem] theorem idZ' (i : Idv) : (decide (i.act = 0) && decide (i.item = 0) && decide (i.n = 0)) = decide (i = Idv.zero) := idEq' i Idv.zero
@[go_sem] theorem wdEq (u v : Wd) : (decide (u.text = v.text) && decide (u.by_ = v.by_)) = decide (u = v) := by
 obtain ⟨a, b⟩ := u; obtain ⟨a', b'⟩ := v
 rw [Bool.eq_iff_iff]; simp [Wd.mk.injEq]
end Abs
end Go.Proofs.YtkhjpcmpljpmjaaGreatDoor
