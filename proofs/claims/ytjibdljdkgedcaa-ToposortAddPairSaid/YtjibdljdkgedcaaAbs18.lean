/-
  Rules for walks that follow one path at a time. No condition.
-/
import Derived.Test.YtjibdljdkgedcaaAbs16
namespace Go.Proofs.Ytjibdljdkgedcaa.Abs
open Go.RowKit
variable {P : Program} {own : List Nat} {Q : Exit → St → Prop} {st : St}

theorem awp_seq_cond {c : Operand} {x y b : Code} (t : Bool) (ht : st.ev c = .bool t) (h1 : t = true → awp P own (.seq x b) Q st) (h2 : t = false → awp P own (.seq y b) Q st) : awp P own (.seq (.cond c x y) b) Q st :=
  ⟨t, ht, h1, h2⟩
theorem awp_seq_skip {b : Code} (h : awp P own b Q st) : awp P own (.seq .skip b) Q st := ⟨st, SealTo.refl st, h⟩
theorem awp_seq_ret {b : Code} (h : Q .ret st) : awp P own (.seq .ret b) Q st := h
theorem awp_seq_exit {b : Code} {id : Nat} (h : Q (.exit id) st) : awp P own (.seq (.exit id) b) Q st := h
theorem awp_seq_block {id : Nat} {c b : Code} (h : awp P own c (blkK id (seqK (fun st => ∃ st', SealTo P st st' ∧ awp P own b Q st') Q)) st) : awp P own (.seq (.block id c) b) Q st := h
theorem awp_reg' {id : Nat} {l : List Oper} (h : ∀ K : St → Prop, (∀ st, Q .normal st → K st) → awpL P own (l.map (·.dst)) l K st) : awp P own (.region id l.toArray false) Q st :=
  awp_reg (h _ fun _ h => h)
theorem awp_draw' {id : Nat} {l : List Oper} (h0 : drawOK own l.toArray = true) (h : ∀ K : St → Prop, (∀ st, Q .normal st → K st) → awpD P own (l.map (·.dst)) l K st) : awp P own (.region id l.toArray true) Q st :=
  awp_draw h0 (h _ fun _ h => h)
theorem awp_loop' {c : Code} (I : Nat → St → Prop) (h0 : ∃ n, I n st) (h : ∀ n st', I n st' → awp P own c (loopK I n Q) st') : awp P own (.loop c) Q st := ⟨I, h0, h⟩
theorem retQ_K {rs : List ResultVar} {K : D → HM → Nat → Prop} {d : D} (h : resD P st rs = some d) (hF : K d st.H st.nx) : retQ P rs K .ret st := ⟨d, h, hF⟩
theorem retQ_K' {rs : List ResultVar} {K : D → HM → Nat → Prop} {d : D} (h : resD P st rs = some d) (hF : K d st.H st.nx) : retQ P rs K .normal st := ⟨d, h, hF⟩
theorem retQ_fin {rs : List ResultVar} {k : Nat} {r d : D} (h : resD P st rs = some d) (hF : Fin P k r d st.H st.nx) : retQ P rs (Fin P k r) .ret st := ⟨d, h, hF⟩
theorem retQ_fin' {rs : List ResultVar} {k : Nat} {r d : D} (h : resD P st rs = some d) (hF : Fin P k r d st.H st.nx) : retQ P rs (Fin P k r) .normal st := ⟨d, h, hF⟩
theorem seqK_n {Q' : Exit → St → Prop} {b : Code} (h : awp P own b Q st) : seqK (fun st => ∃ st', SealTo P st st' ∧ awp P own b Q st') Q' .normal st := ⟨st, SealTo.refl st, h⟩
theorem seqK_seal {Q' : Exit → St → Prop} {b : Code} (st' : St) (hs : SealTo P st st') (h : awp P own b Q st') : seqK (fun st => ∃ st', SealTo P st st' ∧ awp P own b Q st') Q' .normal st := ⟨st', hs, h⟩
theorem seqK_e {k : St → Prop} {id : Nat} (h : Q (.exit id) st) : seqK k Q (.exit id) st := h
theorem seqK_r {k : St → Prop} (h : Q .ret st) : seqK k Q .ret st := h
theorem blkK_n {id : Nat} (h : Q .normal st) : blkK id Q .normal st := h
theorem blkK_e {id : Nat} (h : Q .normal st) : blkK id Q (.exit id) st := by
  simp only [blkK, if_true]; exact h
theorem blkK_o {id id' : Nat} (hne : (id' == id) = false) (h : Q (.exit id') st) : blkK id Q (.exit id') st := by
  have : ¬ id' = id := by simpa using hne
  simp only [blkK]; rw [if_neg this]; exact h
theorem blkK_r {id : Nat} (h : Q .ret st) : blkK id Q .ret st := h
theorem loopK_e {I : Nat → St → Prop} {n id : Nat} (h : Q (.exit id) st) : loopK I n Q (.exit id) st := h
theorem loopK_r {I : Nat → St → Prop} {n : Nat} (h : Q .ret st) : loopK I n Q .ret st := h
section
variable {f : List Oper → (St → Prop) → St → Prop} {rest : List Oper} {K : St → Prop} {dst : Option Nat}
/-- A guarded operation: both ways. -/
theorem stepG_split {b : Bool} {op : Op} {ty : TypeId} {pos : String} {aft : Array Edge} {g : Option (Nat × Bool)} (h1 : b = true → f (⟨dst, op, ty, pos, aft, g⟩ :: rest) K st) (h2 : b = false → f rest K (st.put dst (.tup []))) :
    stepG (some b) f ⟨dst, op, ty, pos, aft, g⟩ rest K st := by
  cases b with
  | true => exact h1 rfl
  | false => exact h2 rfl
end
attribute [go_sem] encI encS
theorem idxD_mapI {α : Type} {f : α → D} {l : List α} {i : Int} (h0 : 0 ≤ i) (h : i.toNat < l.length) : idxD (l.map f) i = some (f l[i.toNat]) := by
  unfold idxD
  rw [if_pos ⟨h0, by simp; omega⟩]
  simp [h]
theorem ite_some {α : Type} {c : Prop} [Decidable c] {x : α} (h : c) : (if c then some x else none) = some x := if_pos h
theorem take_map' {α β : Type} (f : α → β) (l : List α) (i : Nat) : (l.map f).take i = (l.take i).map f := (List.map_take).symm
theorem drop_map' {α β : Type} (f : α → β) (l : List α) (i : Nat) : (l.map f).drop i = (l.drop i).map f := (List.map_drop).symm
theorem maxLen_val : maxLen = 9223372036854775807 := rfl
attribute [go_sem] take_map' drop_map' maxLen_val
theorem nbeq {a b : Nat} (h : ¬ a = b) : (a == b) = false := by simpa using h
theorem nb1 {a : Nat} {st : St} (h : ¬ a = st.nx) : (a == st.nx) = false := nbeq h
theorem nb2 {a : Nat} {st : St} (h : ¬ st.nx = a) : (st.nx == a) = false := nbeq h
theorem nb3 {a k : Nat} {st : St} (h : ¬ a = st.nx + k) : (a == st.nx + k) = false := nbeq h
theorem nb4 {a k : Nat} {st : St} (h : ¬ st.nx + k = a) : (st.nx + k == a) = false := nbeq h
theorem idxD_mapN {α : Type} {f : α → D} {l : List α} {k : Nat} (h : k < l.length) : idxD (l.map f) (k : Int) = some (f l[k]) := idxD_map f l k h
/-- A slice that may be nil: both ways. -/
theorem AC.split {f : FuncId} {pre post : List D} {sz : Nat} {els : List D} {H : HM} {nx : Nat} {K : D → HM → Nat → Prop} (h0 : els = [] → AC P f (pre ++ .nil :: post) H nx K) (h1 : AC P f (pre ++ .rsl true sz els :: post) H nx K) :
    AC P f (pre ++ .rsl false sz els :: post) H nx K := by
  refine ⟨h1.1, fun s w vs hH hnx hRH hr => ?_⟩
  have key : ∀ (pre : List D) (vs : List Value), relAll s (pre ++ .rsl false sz els :: post) vs → (els = [] ∧ relAll s (pre ++ .nil :: post) vs) ∨ relAll s (pre ++ .rsl true sz els :: post) vs := by
    intro pre
    induction pre with
    | nil =>
      intro vs hr
      simp only [List.nil_append, relAll] at hr ⊢
      obtain ⟨v, r, h1, h2, h3⟩ := hr
      simp only [rel] at h2
      rcases h2 with ⟨_, h4, h5⟩ | h2
      · exact .inl ⟨h4, v, r, h1, by simpa only [rel] using h5, h3⟩
      · exact .inr ⟨v, r, h1, by simp only [rel]; exact .inr h2, h3⟩
    | cons d ds ih =>
      intro vs hr
      simp only [List.cons_append, relAll] at hr ⊢
      obtain ⟨v, r, h1, h2, h3⟩ := hr
      rcases ih r h3 with ⟨h4, h5⟩ | h4
      · exact .inl ⟨h4, v, r, h1, h2, h5⟩
      · exact .inr ⟨v, r, h1, h2, h4⟩
  rcases key pre vs hr with ⟨h2, h3⟩ | h2
  · exact (h0 h2).2 s w vs hH hnx hRH h3
  · exact h1.2 s w vs hH hnx hRH h2
theorem sealD_tup {P : Program} {H : HM} {ds ds' : List D} (k : Nat) (hp : pureD.pureL ds = false) (hc : optL (sealD P H k) ds = some ds') : sealD P H (k + 1) (.tup ds) = some (.tup ds') := by
  unfold sealD
  simp only [pureD, hp, Bool.false_eq_true, if_false, hc, Option.map_some]
theorem sealD_agg {P : Program} {H : HM} {ds ds' : List D} (k : Nat) (hp : pureD.pureL ds = false) (hc : optL (sealD P H k) ds = some ds') : sealD P H (k + 1) (.agg ds) = some (.agg ds') := by
  unfold sealD
  simp only [pureD, hp, Bool.false_eq_true, if_false, hc, Option.map_some]
theorem groupD_one' {cs : List D} {n : Nat} (h : n = cs.length) : groupD false 1 n cs = cs := by subst h; exact groupD_one cs
theorem cellsAll_one {α : Type} {f : α → D} (h : ∀ x, cellsD (f x) = some [f x]) : ∀ (l : List α), cellsAll 1 (l.map f) = some (l.map f)
  | [] => rfl
  | x :: l => by simp [cellsAll, h, cellsAll_one h l]
theorem cellsAll_agg {α : Type} {f : α → List D} {n : Nat} (h : ∀ x, (f x).length = n) : ∀ (l : List α), cellsAll n (l.map fun x => .agg (f x)) = some (l.flatMap f)
  | [] => rfl
  | x :: l => by simp [cellsAll, cellsD, h, cellsAll_agg h l]
theorem cells_str (l : List ByteArray) : cellsAll 1 (l.map D.str) = some (l.map D.str) := cellsAll_one (fun _ => rfl) l
theorem cells_int {k : IntKind} (l : List Int) : cellsAll 1 (l.map (D.int k)) = some (l.map (D.int k)) := cellsAll_one (fun _ => rfl) l
theorem pure_str (l : List ByteArray) : pureD.pureL (l.map D.str) = true := pureL_map (fun _ => rfl) l
theorem pure_int {k : IntKind} (l : List Int) : pureD.pureL (l.map (D.int k)) = true := pureL_map (fun _ => rfl) l
theorem groupD_map {α : Type} (f : α → D) (l : List α) : groupD false 1 l.length (l.map f) = l.map f := groupD_one' (by simp)
attribute [go_sem] List.nil_append List.cons_append Bool.false_or Bool.or_true Bool.true_or Bool.or_false groupD_map
theorem pureL_append (a b : List D) : pureD.pureL (a ++ b) = (pureD.pureL a && pureD.pureL b) := by
  induction a with
  | nil => rfl
  | cons d ds ih => simp only [List.cons_append, pureD.pureL, ih, Bool.and_assoc]
attribute [go_sem] pureL_append
theorem groupD_snoc {α : Type} (f : α → D) (l : List α) (x : D) : groupD false 1 (l.length + 1) (l.map f ++ [x]) = l.map f ++ [x] := groupD_one' (by simp)
attribute [go_sem high] groupD_snoc
theorem cells_nat {k : IntKind} (l : List Nat) : cellsAll 1 (l.map fun n => D.int k (n : Nat)) = some (l.map fun n => D.int k (n : Nat)) := cellsAll_one (fun _ => rfl) l
theorem pure_nat {k : IntKind} (l : List Nat) : pureD.pureL (l.map fun n => D.int k (n : Nat)) = true := pureL_map (fun _ => rfl) l
attribute [go_sem] cells_str cells_int pure_str pure_int cells_nat pure_nat

theorem pure_take : ∀ (n : Nat) (cs : List D), pureD.pureL cs = true → pureD.pureL (cs.take n) = true
  | 0, _, _ => rfl
  | n + 1, [], _ => rfl
  | n + 1, c :: cs, h => by
    simp only [pureD.pureL, Bool.and_eq_true, List.take_succ_cons] at h ⊢
    exact ⟨h.1, pure_take n cs h.2⟩
theorem pure_drop : ∀ (n : Nat) (cs : List D), pureD.pureL cs = true → pureD.pureL (cs.drop n) = true
  | 0, _, h => h
  | n + 1, [], _ => rfl
  | n + 1, c :: cs, h => by
    simp only [pureD.pureL, Bool.and_eq_true] at h
    exact pure_drop n cs h.2
theorem pure_group {ag : Bool} {sz : Nat} : ∀ {n : Nat} {cs : List D}, pureD.pureL cs = true → pureD.pureL (groupD ag sz n cs) = true
  | 0, _, _ => rfl
  | n + 1, cs, h => by
    simp only [groupD, pureD.pureL, Bool.and_eq_true]
    refine ⟨?_, pure_group (pure_drop sz cs h)⟩
    cases ag with
    | true => simp only [if_true, pureD]; exact pure_take sz cs h
    | false =>
      cases cs with
      | nil => rfl
      | cons c cs =>
        simp only [pureD.pureL, Bool.and_eq_true] at h
        exact h.1
/-- A row that is given up, in a value. -/
def seal0 (P : Program) (id : Nat) (e : TypeId) (k : Nat) (cs : List D) : D → D
  | .osl j n => cond (j == id && n == k) (.rsl false (sizeT P e) (groupD (isAggT P e) (sizeT P e) k cs)) (.osl j n)
  | d => d
def seal1 (P : Program) (id : Nat) (e : TypeId) (k : Nat) (cs : List D) : D → D
  | .agg ds => .agg (ds.map (seal0 P id e k cs))
  | d => seal0 P id e k cs d
def sealO (P : Program) (id : Nat) (e : TypeId) (k : Nat) (cs : List D) : HObj → HObj
  | .box t ds => .box t (ds.map (seal0 P id e k cs))
  | .row t n ds => .row t n (ds.map (seal0 P id e k cs))
  | o => o
def St.given (P : Program) (st : St) (id : Nat) (e : TypeId) (k : Nat) (cs : List D) : St :=
  { t := fun i => seal1 P id e k cs (st.t i), H := fun j => cond (j == id) none ((st.H j).map (sealO P id e k cs)), nx := st.nx }
theorem seal_to {st : St} {id : Nat} {e : TypeId} {k : Nat} {cs : List D} (h : st.H id = some (.row e k cs)) (ho : oneOK P e = true) (hp : pureD.pureL cs = true) : SealTo P st (st.given P id e k cs) := by
  intro N s a w hf
  have hid : s.H id = some (.row e k cs) := by rw [hf.H]; exact h
  obtain ⟨g1, g2⟩ := shut1_state hf.heap (id := id) (by rw [hid]; simp)
  let s' : RS := { s.shut1 w id with H := fun j => cond (j == id) none ((s.H j).map (sealO P id e k cs)) }
  have hm : s'.m = (s.shut1 w id).m := rfl
  have hH' : ∀ j, j ≠ id → s'.H j = (s.H j).map (sealO P id e k cs) := fun j hj => by
    have : (j == id) = false := by simpa using hj
    show cond (j == id) none _ = _
    rw [this]; rfl
  have hHid : s'.H id = none := by
    show cond (id == id) none _ = _
    simp
  have hlater : Later s s' := by
    refine ⟨Nat.le_refl _, g1.mem, fun j _ => ?_⟩
    by_cases hj : j = id
    · subst hj
      rw [hHid, hid]; exact .inl rfl
    · rw [hH' j hj]
      show objLe (s.H j) ((s.H j).map _) (s.κ j) (s.κ j)
      cases s.H j with
      | none => rfl
      | some o =>
        cases o with
        | box t ds => exact .inr ⟨_, rfl, rfl⟩
        | row t n ds => exact .inr ⟨n, _, rfl, Nat.le_refl _, fun _ => rfl⟩
        | map es => exact .inr ⟨_, rfl, rfl⟩
  have r0 : ∀ d v, rel s d v → rel s' (seal0 P id e k cs d) v := by
    intro d v hr
    have stay : rel s' d v := rel.later hlater d v hr
    cases d <;> first | exact stay | skip
    rename_i j n
    simp only [seal0]
    cases hc : (j == id && n == k) with
    | false => exact stay
    | true =>
      simp only [Bool.and_eq_true, beq_iff_eq] at hc
      obtain ⟨rfl, rfl⟩ := hc
      have hs : shutR P (.osl j n, s.H, s.nx) = some (.rsl false (sizeT P e) (groupD (isAggT P e) (sizeT P e) n cs), updH s.H j none, s.nx) := by
        unfold shutR
        simp only [hid]
        rw [if_pos ⟨trivial, ho, hp⟩]
      obtain ⟨s2, _, _, _, _, hr2, he2⟩ := shutR_sound hf.heap rfl rfl hr hs
      have he3 := he2 j n rfl
      subst he3
      have hpp : pureD (.rsl false (sizeT P e) (groupD (isAggT P e) (sizeT P e) n cs)) = true := by
        simp only [pureD]
        exact pure_group hp
      exact rel_pure (s := s.shut1 w j) (s' := s') (fun a v h => h) _ _ hpp hr2
  have r0L : ∀ (ds : List D) (vs : List Value), relAll s ds vs → relAll s' (ds.map (seal0 P id e k cs)) vs := by
    intro ds
    induction ds with
    | nil => intro vs hr; simpa [relAll] using hr
    | cons d ds ih =>
      intro vs hr
      simp only [relAll] at hr
      obtain ⟨v, r, rfl, h1, h2⟩ := hr
      exact relAll_cons (r0 d v h1) (ih r h2)
  have r1 : ∀ d v, rel s d v → rel s' (seal1 P id e k cs d) v := by
    intro d v hr
    cases d <;> first | exact r0 _ v hr | skip
    rename_i ds
    simp only [seal1, rel] at hr ⊢
    obtain ⟨vs, h1, h2, h3⟩ := hr
    exact ⟨vs, h1, r0L ds vs h2, h3⟩
  have hnone : ∀ j, s'.H j ≠ none → j ≠ id ∧ s.H j ≠ none := by
    intro j hj
    by_cases hji : j = id
    · subst hji; exact (hj hHid).elim
    · rw [hH' j hji] at hj
      exact ⟨hji, fun h0 => hj (by rw [h0]; rfl)⟩
  have hown : ∀ b, owned s' b → owned (s.shut1 w id) b := by
    rintro b ⟨j, hj, hH, hb⟩
    obtain ⟨h1, h2⟩ := hnone j hH
    exact ⟨j, hj, by simp only [RS.shut1, updH, if_neg h1]; exact h2, hb⟩
  have hown2 : ∀ b, owned s' b → owned s b := by
    rintro b ⟨j, hj, hH, hb⟩
    exact ⟨j, hj, (hnone j hH).2, hb⟩
  refine ⟨s', ⟨?_, hf.nx, hf.size, hf.defers, fun i => r1 _ _ (hf.tmps i), ?_⟩, ?_⟩
  · show (fun j => cond (j == id) none ((s.H j).map (sealO P id e k cs))) = _
    rw [hf.H]; rfl
  · refine ⟨fun a v hmm => ⟨(g2.mem a v hmm).1, fun ho => (g2.mem a v hmm).2 (hown _ ho)⟩, fun j o hj => ?_, fun i j hi hj hij hbi => ?_, fun g => rel.later hlater _ _ (hf.heap.glob g)⟩
    · obtain ⟨h1, h2⟩ := hnone j (by rw [hj]; simp)
      rw [hH' j h1] at hj
      cases hs : s.H j with
      | none => exact (h2 hs).elim
      | some o0 =>
        rw [hs] at hj
        simp only [Option.map_some, Option.some.injEq] at hj
        obtain ⟨q1, q2⟩ := hf.heap.obj j o0 hs
        refine ⟨q1, ?_⟩
        show objOK P s' w (s.κ j) o
        cases o0 with
        | box t ds =>
          simp only [sealO] at hj; subst hj
          obtain ⟨b, vs, u1, u2, u3, u4⟩ := q2
          exact ⟨b, vs, u1, u2, r0L _ _ u3, u4⟩
        | row t n ds =>
          simp only [sealO] at hj; subst hj
          obtain ⟨vs, u1, u2, u3⟩ := q2
          exact ⟨vs, u1, r0L _ _ u2, u3⟩
        | map es =>
          simp only [sealO] at hj; subst hj
          obtain ⟨r, ens, clock, u1, u2, u3, u4⟩ := q2
          exact ⟨r, ens, clock, u1, u2, relAll.later hlater _ _ u3, relAll.later hlater _ _ u4⟩
    · exact hf.heap.apart i j (hnone i hi).2 (hnone j hj).2 hij hbi
  · exact ⟨g1.os, g1.tape, g1.output, g1.size, g1.nx, g1.mem, g1.new, hlater.objs, g1.keep, fun b ho => .inl (hown2 b ho)⟩
@[go_sem] theorem t_seal (st : St) (id e k : Nat) (cs : List D) (i : Nat) : (st.given P id e k cs).t i = seal1 P id e k cs (st.t i) := rfl
@[go_sem] theorem H_seal (st : St) (id e k : Nat) (cs : List D) (j : Nat) : (st.given P id e k cs).H j = cond (j == id) none ((st.H j).map (sealO P id e k cs)) := rfl
@[go_sem] theorem nx_seal (st : St) (id e k : Nat) (cs : List D) : (st.given P id e k cs).nx = st.nx := rfl
attribute [go_sem] seal0 seal1 sealO
theorem seal0_pure {P : Program} {id e k : Nat} {cs : List D} : ∀ (ds : List D), pureD.pureL ds = true → ds.map (seal0 P id e k cs) = ds
  | [], _ => rfl
  | d :: ds, h => by
    simp only [pureD.pureL, Bool.and_eq_true] at h
    rw [List.map_cons, seal0_pure ds h.2]
    congr 1
    cases d <;> first | rfl | (simp [pureD] at h)
theorem seal_keep {P : Program} {st : St} {id e k e' k' j : Nat} {cs cs' : List D} (hj : (j == id) = false) (h : st.H j = some (.row e' k' cs')) (hp : pureD.pureL cs' = true) : (st.given P id e k cs).H j = some (.row e' k' cs') := by
  rw [H_seal, hj, h]
  simp only [cond_false, Option.map_some, sealO, seal0_pure cs' hp]
attribute [go_sem] Bool.not_true Bool.not_false decide_true decide_false List.getElem?_toArray List.map_map ne_eq not_true_eq_false not_false_eq_true List.length_map Nat.zero_le Option.some.injEq List.length_cons List.length_nil beq_self_eq_true Bool.true_and Bool.and_true true_or or_true List.drop_zero List.set_cons_zero List.set_cons_succ List.take_succ_cons List.take_zero List.drop_succ_cons D.int.injEq Prod.mk.injEq Int.toNat_natCast Nat.mul_one Nat.zero_add Nat.add_zero Int.natCast_nonneg List.getElem?_map List.length_set List.length_append List.length_replicate List.length_take List.length_drop List.take_length Bool.false_and Bool.and_false
attribute [go_sem] idxD_mapN idxD_mapI wrapI nb1 nb2 nb3 nb4 ite_some resD allR valR
end Go.Proofs.Ytjibdljdkgedcaa.Abs
