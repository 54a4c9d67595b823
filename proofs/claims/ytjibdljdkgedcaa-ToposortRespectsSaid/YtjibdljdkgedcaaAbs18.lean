/-
  Rules for walks that follow one path at a time. No condition.
-/
import Derived.Test.YtjibdljdkgedcaaAbs16
set_option linter.unusedSimpArgs false
set_option linter.unusedVariables false
namespace Go.Proofs.Ytjibdljdkgedcaa.Abs
open Go.RowKit
variable {P : Program} {own : List Nat} {Q : Exit → St → Prop} {st : St}

theorem awp_seq_cond {c : Operand} {x y b : Code} (t : Bool) (ht : st.ev c = .bool t) (h1 : t = true → awp P own (.seq x b) Q st) (h2 : t = false → awp P own (.seq y b) Q st) : awp P own (.seq (.cond c x y) b) Q st :=
  ⟨t, ht, h1, h2⟩
theorem awp_seq_skip {b : Code} (h : awp P own b Q st) : awp P own (.seq .skip b) Q st := ⟨st, SealTo.refl st, h⟩
theorem awp_seq_ret {b : Code} (h : Q .ret st) : awp P own (.seq .ret b) Q st := h
theorem awp_seq_exit {b : Code} {id : Nat} (h : Q (.exit id) st) : awp P own (.seq (.exit id) b) Q st := h
theorem awp_seq_block {id : Nat} {c b : Code} (h : awp P own c (blkK id (seqK (fun st => ∃ st', SealTo P st st' ∧ awp P own b Q st') Q)) st) : awp P own (.seq (.block id c) b) Q st := h
theorem awp_reg' {id : Nat} {l : List Oper} (h : ∀ K : St → Prop, (∀ st, Q .normal st → K st) → awpL P own (l.map (·.dst)) l K st) : awp P own (.region id l.toArray false) Q st :=
  awp_reg (h _ fun _ h => h)
theorem awp_draw' {id : Nat} {l : List Oper} (h0 : drawOK own l.toArray = true) (h : ∀ K : St → Prop, (∀ st, Q .normal st → K st) → awpD P own (l.map (·.dst)) l K st) : awp P own (.region id l.toArray true) Q st :=
  awp_draw h0 (h _ fun _ h => h)
theorem awp_loop' {c : Code} (I : Nat → St → Prop) (h0 : ∃ n, I n st) (h : ∀ n st', I n st' → awp P own c (loopK I n Q) st') : awp P own (.loop c) Q st := ⟨I, h0, h⟩
def isRN : Exit → Bool
  | .normal | .ret => true
  | _ => false
theorem retQ_E {e : Exit} {rs : List ResultVar} {K : D → HM → Nat → Prop} {d : D} (h : resD P st rs = some d) (he : isRN e = true) (hF : K d st.H st.nx) : retQ P rs K e st := by
  cases e <;> first | exact ⟨d, h, hF⟩ | cases he
theorem seqK_n {Q' : Exit → St → Prop} {b : Code} (h : awp P own b Q st) : seqK (fun st => ∃ st', SealTo P st st' ∧ awp P own b Q st') Q' .normal st := ⟨st, SealTo.refl st, h⟩
theorem seqK_e {k : St → Prop} {id : Nat} (h : Q (.exit id) st) : seqK k Q (.exit id) st := h
theorem seqK_r {k : St → Prop} (h : Q .ret st) : seqK k Q .ret st := h
theorem blkK_n {id : Nat} (h : Q .normal st) : blkK id Q .normal st := h
theorem blkK_e {id : Nat} (h : Q .normal st) : blkK id Q (.exit id) st := by
  simp only [blkK, if_true]; exact h
theorem blkK_o {id id' : Nat} (hne : (id' == id) = false) (h : Q (.exit id') st) : blkK id Q (.exit id') st := by
  have : ¬ id' = id := by simpa using hne
  simp only [blkK]; rw [if_neg this]; exact h
theorem blkK_r {id : Nat} (h : Q .ret st) : blkK id Q .ret st := h
theorem loopK_e {I : Nat → St → Prop} {n id : Nat} (h : Q (.exit id) st) : loopK I n Q (.exit id) st := h
theorem loopK_r {I : Nat → St → Prop} {n : Nat} (h : Q .ret st) : loopK I n Q .ret st := h
section
variable {f : List Oper → (St → Prop) → St → Prop} {rest : List Oper} {K : St → Prop} {dst : Option Nat}
/-- A guarded operation: both ways. -/
theorem stepG_split {b : Bool} {op : Op} {ty : TypeId} {pos : String} {aft : Array Edge} {g : Option (Nat × Bool)} (h1 : b = true → f (⟨dst, op, ty, pos, aft, g⟩ :: rest) K st) (h2 : b = false → f rest K (st.put dst (.tup []))) :
    stepG (some b) f ⟨dst, op, ty, pos, aft, g⟩ rest K st := by
  cases b with
  | true => exact h1 rfl
  | false => exact h2 rfl
end
attribute [go_sem] encI encS
theorem idxD_mapI {α : Type} {f : α → D} {l : List α} {i : Int} (h0 : 0 ≤ i) (h : i.toNat < l.length) : idxD (l.map f) i = some (f l[i.toNat]) := by
  unfold idxD
  rw [if_pos ⟨h0, by simp; omega⟩]
  simp [h]
theorem ite_some {α : Type} {c : Prop} [Decidable c] {x : α} (h : c) : (if c then some x else none) = some x := if_pos h
theorem take_map' {α β : Type} (f : α → β) (l : List α) (i : Nat) : (l.map f).take i = (l.take i).map f := (List.map_take).symm
theorem drop_map' {α β : Type} (f : α → β) (l : List α) (i : Nat) : (l.map f).drop i = (l.drop i).map f := (List.map_drop).symm
theorem maxLen_val : maxLen = 9223372036854775807 := rfl
attribute [go_sem] take_map' drop_map' maxLen_val
theorem nbeq {a b : Nat} (h : ¬ a = b) : (a == b) = false := by simpa using h
theorem nb1 {a : Nat} {st : St} (h : ¬ a = st.nx) : (a == st.nx) = false := nbeq h
theorem nb2 {a : Nat} {st : St} (h : ¬ st.nx = a) : (st.nx == a) = false := nbeq h
theorem nb3 {a k : Nat} {st : St} (h : ¬ a = st.nx + k) : (a == st.nx + k) = false := nbeq h
theorem nb4 {a k : Nat} {st : St} (h : ¬ st.nx + k = a) : (st.nx + k == a) = false := nbeq h
theorem idxD_mapN {α : Type} {f : α → D} {l : List α} {k : Nat} (h : k < l.length) : idxD (l.map f) (k : Int) = some (f l[k]) := idxD_map f l k h
/-- A slice that may be nil: both ways. -/
theorem AC.split {f : FuncId} {pre post : List D} {sz : Nat} {els : List D} {H : HM} {nx : Nat} {K : D → HM → Nat → Prop} (h0 : els = [] → AC P f (pre ++ .nil :: post) H nx K) (h1 : AC P f (pre ++ .rsl true sz els :: post) H nx K) :
    AC P f (pre ++ .rsl false sz els :: post) H nx K := by
  refine ⟨h1.1, fun s w vs hH hnx hRH hr => ?_⟩
  have key : ∀ (pre : List D) (vs : List Value), relAll s (pre ++ .rsl false sz els :: post) vs → (els = [] ∧ relAll s (pre ++ .nil :: post) vs) ∨ relAll s (pre ++ .rsl true sz els :: post) vs := by
    intro pre
    induction pre with
    | nil =>
      intro vs hr
      simp only [List.nil_append, relAll] at hr ⊢
      obtain ⟨v, r, h1, h2, h3⟩ := hr
      simp only [rel] at h2
      rcases h2 with ⟨_, h4, h5⟩ | h2
      · exact .inl ⟨h4, v, r, h1, by simpa only [rel] using h5, h3⟩
      · exact .inr ⟨v, r, h1, by simp only [rel]; exact .inr h2, h3⟩
    | cons d ds ih =>
      intro vs hr
      simp only [List.cons_append, relAll] at hr ⊢
      obtain ⟨v, r, h1, h2, h3⟩ := hr
      rcases ih r h3 with ⟨h4, h5⟩ | h4
      · exact .inl ⟨h4, v, r, h1, h2, h5⟩
      · exact .inr ⟨v, r, h1, h2, h4⟩
  rcases key pre vs hr with ⟨h2, h3⟩ | h2
  · exact (h0 h2).2 s w vs hH hnx hRH h3
  · exact h1.2 s w vs hH hnx hRH h2
theorem sealD_tup {P : Program} {H : HM} {ds ds' : List D} (k : Nat) (hp : pureD.pureL ds = false) (hc : optL (sealD P H k) ds = some ds') : sealD P H (k + 1) (.tup ds) = some (.tup ds') := by
  unfold sealD
  simp only [pureD, hp, Bool.false_eq_true, if_false, hc, Option.map_some]
theorem groupD_one' {cs : List D} {n : Nat} (h : n = cs.length) : groupD false 1 n cs = cs := by subst h; exact groupD_one cs
theorem cellsAll_one {α : Type} {f : α → D} (h : ∀ x, cellsD (f x) = some [f x]) : ∀ (l : List α), cellsAll 1 (l.map f) = some (l.map f)
  | [] => rfl
  | x :: l => by simp [cellsAll, h, cellsAll_one h l]
theorem cellsAll_agg {α : Type} {f : α → List D} {n : Nat} (h : ∀ x, (f x).length = n) : ∀ (l : List α), cellsAll n (l.map fun x => .agg (f x)) = some (l.flatMap f)
  | [] => rfl
  | x :: l => by simp [cellsAll, cellsD, h, cellsAll_agg h l]
theorem cells_str (l : List ByteArray) : cellsAll 1 (l.map D.str) = some (l.map D.str) := cellsAll_one (fun _ => rfl) l
theorem cells_int {k : IntKind} (l : List Int) : cellsAll 1 (l.map (D.int k)) = some (l.map (D.int k)) := cellsAll_one (fun _ => rfl) l
theorem pure_str (l : List ByteArray) : pureD.pureL (l.map D.str) = true := pureL_map (fun _ => rfl) l
theorem pure_int {k : IntKind} (l : List Int) : pureD.pureL (l.map (D.int k)) = true := pureL_map (fun _ => rfl) l
theorem groupD_map {α : Type} (f : α → D) (l : List α) : groupD false 1 l.length (l.map f) = l.map f := groupD_one' (by simp)
attribute [go_sem] List.nil_append List.cons_append Bool.false_or Bool.or_true Bool.true_or Bool.or_false groupD_map
theorem pureL_append (a b : List D) : pureD.pureL (a ++ b) = (pureD.pureL a && pureD.pureL b) := by
  induction a with
  | nil => rfl
  | cons d ds ih => simp only [List.cons_append, pureD.pureL, ih, Bool.and_assoc]
attribute [go_sem] pureL_append
theorem groupD_snoc {α : Type} (f : α → D) (l : List α) (x : D) : groupD false 1 (l.length + 1) (l.map f ++ [x]) = l.map f ++ [x] := groupD_one' (by simp)
attribute [go_sem high] groupD_snoc
theorem cells_nat {k : IntKind} (l : List Nat) : cellsAll 1 (l.map fun n => D.int k (n : Nat)) = some (l.map fun n => D.int k (n : Nat)) := cellsAll_one (fun _ => rfl) l
theorem pure_nat {k : IntKind} (l : List Nat) : pureD.pureL (l.map fun n => D.int k (n : Nat)) = true := pureL_map (fun _ => rfl) l
attribute [go_sem] cells_str cells_int pure_str pure_int cells_nat pure_nat

/-- A row that is given up, in a value. -/
def seal0 (P : Program) (id : Nat) (e : TypeId) (k : Nat) (cs : List D) : D → D
  | .osl j n => cond (j == id && n == k) (.rsl false (sizeT P e) (groupD (isAggT P e) (sizeT P e) k cs)) (.osl j n)
  | d => d
def seal1 (P : Program) (id : Nat) (e : TypeId) (k : Nat) (cs : List D) : D → D
  | .agg ds => .agg (ds.map (seal0 P id e k cs))
  | d => seal0 P id e k cs d
def sealO (P : Program) (id : Nat) (e : TypeId) (k : Nat) (cs : List D) : HObj → HObj
  | .box t ds => .box t (ds.map (seal0 P id e k cs))
  | .row t n ds => .row t n (ds.map (seal0 P id e k cs))
  | o => o
def St.given (P : Program) (st : St) (id : Nat) (e : TypeId) (k : Nat) (cs : List D) : St :=
  { t := fun i => seal1 P id e k cs (st.t i), H := fun j => cond (j == id) none ((st.H j).map (sealO P id e k cs)), nx := st.nx }
@[go_sem] theorem t_seal (st : St) (id e k : Nat) (cs : List D) (i : Nat) : (st.given P id e k cs).t i = seal1 P id e k cs (st.t i) := rfl
@[go_sem] theorem H_seal (st : St) (id e k : Nat) (cs : List D) (j : Nat) : (st.given P id e k cs).H j = cond (j == id) none ((st.H j).map (sealO P id e k cs)) := rfl
@[go_sem] theorem nx_seal (st : St) (id e k : Nat) (cs : List D) : (st.given P id e k cs).nx = st.nx := rfl
attribute [go_sem] seal0 seal1 sealO
attribute [go_sem] Bool.not_true Bool.not_false decide_true decide_false List.getElem?_toArray List.map_map ne_eq not_true_eq_false not_false_eq_true List.length_map Nat.zero_le Option.some.injEq List.length_cons List.length_nil beq_self_eq_true Bool.true_and Bool.and_true true_or or_true List.drop_zero List.set_cons_zero List.set_cons_succ List.take_succ_cons List.take_zero List.drop_succ_cons D.int.injEq Prod.mk.injEq Int.toNat_natCast Nat.mul_one Nat.zero_add Nat.add_zero Int.natCast_nonneg List.getElem?_map List.length_set List.length_append List.length_replicate List.length_take List.length_drop List.take_length Bool.false_and Bool.and_false
attribute [go_sem] idxD_mapN idxD_mapI wrapI nb1 nb2 nb3 nb4 ite_some resD allR valR
end Go.Proofs.Ytjibdljdkgedcaa.Abs
