/-
  Regions that draw their order, second part: whatever order is drawn, the walk of the text's order serves. No condition.
-/
import Derived.Test.YtjibdljdkgedcaaAbs11
set_option linter.unusedSimpArgs false
set_option linter.unusedVariables false
namespace Go.Proofs.Ytjibdljdkgedcaa.Abs
open Go.RowKit
variable {P : Program}

/-- The boxes are as they were. -/
def SameB (st : St) (H : HM) (nx : Nat) : Prop := st.nx ≤ nx ∧ ∀ id, (id < st.nx → ∀ e cs, st.H id = some (.box e cs) → H id = some (.box e cs)) ∧ (id < nx → ∀ e cs, H id = some (.box e cs) → id < st.nx ∧ st.H id = some (.box e cs))
/-- A load into slot i, or a store through it, is marked by two entries, i + 600000 and k + 900000: it touches object k alone. -/
def touchOf (i : Nat) : List Nat → Option Nat
  | s :: r :: l => if s = i + 600000 then some r else touchOf i (r :: l)
  | _ => none
def okT (own : List Nat) (dst : Option Nat) (d : D) : Bool :=
  match dst with
  | some i => (match touchOf i own with
    | some r => (match d with
      | .ptr id _ => decide (id + 900000 = r)
      | _ => false)
    | none => true)
  | none => true
def slotOf : Operand → Option Nat
  | .tmp i => some i
  | _ => none
/-- What a marked operation must keep to. -/
def okW (own : List Nat) (o : Oper) (st : St) : Bool :=
  match o.op with
  | .buildSlice .. => if isMark 7000000 own o.dst = true ∧ isOwn own o.dst = true then decide (boundB own ≤ st.nx) else true
  | .alloc _ => if isMark 7000000 own o.dst = true then decide (boundB own ≤ st.nx) else true
  | .load _ p => okT own o.dst (st.ev p)
  | .store _ p _ => okT own (slotOf p) (st.ev p)
  | .call { callee := .builtin .append, args := args, .. } =>
    if isMark 7000000 own o.dst = true then
      (match args.toList with
      | x :: _ => (match st.ev x with
        | .osl id _ => decide (boundB own ≤ id ∧ boundB own ≤ st.nx)
        | _ => decide (boundB own ≤ st.nx))
      | [] => false)
    else true
  | _ => true
theorem okW_congr {own : List Nat} {o : Oper} {st st' : St} (hev : ∀ x ∈ o.op.operands.toList, st.ev x = st'.ev x) (hnx : st.nx = st'.nx) : okW own o st = okW own o st' := by
  unfold okW
  cases hop : o.op <;> simp only [hnx]
  · rename_i t p
    rw [hop] at hev
    rw [hev p (by simp [Op.operands])]
  · rename_i t p v
    rw [hop] at hev
    rw [hev p (by simp [Op.operands])]
  rename_i c
  obtain ⟨callee, args, tys⟩ := c
  rw [hop] at hev
  simp only [Op.operands, Call.operands] at hev
  cases callee <;> first | rfl | skip
  rename_i b
  cases b <;> first | rfl | skip
  simp only
  split
  · cases ha : args.toList with
    | nil => rfl
    | cons x l =>
      simp only
      have : st.ev x = st'.ev x := hev x (by
        have hx : x ∈ args := Array.mem_toList_iff.1 (by rw [ha]; simp)
        simpa using hx)
      rw [this]
  · rfl
theorem okW_load {own : List Nat} {o : Oper} {st : St} {H : HM} {nx : Nat} {t : TypeId} {p : Operand} (hop : o.op = .load t p) : okW own o (st.withH H nx) = okW own o st := by
  unfold okW; rw [hop]; rfl
/-- One operation in a region that draws: its value, and the objects behind it. -/
def stepE (P : Program) (own : List Nat) (ops : Array Oper) (o : Oper) (st : St) (d : D) (H : HM) (nx : Nat) : Prop :=
  (guardD ops st o = some true ∧ ((∃ f args tys g cap, o.op = .call { callee := .value f, args := args, argTypes := tys } ∧ st.ev f = .fn g cap ∧ ((isMark 5000000 own o.dst = false ∧ RC P g (args.toList.map st.ev ++ cap) st.H st.nx d ∧ H = st.H ∧ nx = st.nx) ∨
      (isMark 5000000 own o.dst = true ∧ (∀ H nx, RC P g (args.toList.map st.ev ++ cap) H nx d) ∧ H = st.H ∧ nx = st.nx) ∨
      (isMark 5000000 own o.dst = false ∧ isMark 4000000 own o.dst = true ∧ AC P g (args.toList.map st.ev ++ cap) st.H st.nx (fun r' H' nx' => r' = d ∧ H' = H ∧ nx' = nx) ∧ SameB st H nx))) ∨
    (opR P own o st = some (d, H, nx) ∧ okW own o st = true))) ∨ (guardD ops st o = some false ∧ d = .tup [] ∧ H = st.H ∧ nx = st.nx)
def St.next (st : St) (o : Oper) (d : D) (H : HM) (nx : Nat) : St := (st.withH H nx).put o.dst d

theorem ev_of_looks {ops : Array Oper} {o : Oper} {st st' : St} (h : ∀ t ∈ o.looksAt ops, st.t t = st'.t t) : ∀ x ∈ o.op.operands.toList, st.ev x = st'.ev x := by
  intro x hx
  cases x with
  | tmp t =>
    refine h t ?_
    unfold Oper.looksAt
    refine List.mem_append.2 (.inl (List.mem_filterMap.2 ⟨_, hx, rfl⟩))
  | const v => rfl
  | global g => rfl
  | func f => rfl
theorem guard_of_looks {ops : Array Oper} {o : Oper} {st st' : St} (h : ∀ t ∈ o.looksAt ops, st.t t = st'.t t) : guardD ops st o = guardD ops st' o := by
  unfold guardD
  cases hg : o.guard with
  | none => rfl
  | some jw =>
    obtain ⟨j, want⟩ := jw
    simp only
    cases hd : (ops[j]?).bind (·.dst) with
    | none => rfl
    | some i =>
      have := h i (by
        unfold Oper.looksAt
        refine List.mem_append.2 (.inr ?_)
        rw [hg]; simp only [hd]; simp)
      simp only [this]

theorem stepE_congr {own : List Nat} {ops : Array Oper} {o : Oper} {st st' : St} {d : D} {H : HM} {nx : Nat} (h : ∀ t ∈ o.looksAt ops, st.t t = st'.t t) (hH : st.H = st'.H) (hnx : st.nx = st'.nx)
    (hs : stepE P own ops o st d H nx) : stepE P own ops o st' d H nx := by
  have hev := ev_of_looks h
  unfold stepE at *
  rw [guard_of_looks h] at hs
  rcases hs with ⟨hg, hs⟩ | ⟨hg, hs⟩
  · refine .inl ⟨hg, ?_⟩
    rcases hs with ⟨f, args, tys, g, cap, hop, hf, hcase⟩ | hs
    · rw [hop] at hev
      simp only [Op.operands, Call.operands] at hev
      have hargs : args.toList.map st.ev = args.toList.map st'.ev := map_congr' _ fun x hx => hev x (by simp; exact .inr (by simpa using hx))
      refine .inl ⟨f, args, tys, g, cap, hop, by rw [← hev f (by simp)]; exact hf, ?_⟩
      rcases hcase with ⟨h0, hrc, h1, h2⟩ | ⟨h0, hrc, h1, h2⟩ | ⟨h0, hm, hac, hsb⟩
      · exact .inl ⟨h0, by rw [← hargs, ← hH, ← hnx]; exact hrc, by rw [h1, hH], by rw [h2, hnx]⟩
      · exact .inr (.inl ⟨h0, by rw [← hargs]; exact hrc, by rw [h1, hH], by rw [h2, hnx]⟩)
      · refine .inr (.inr ⟨h0, hm, by rw [← hargs, ← hH, ← hnx]; exact hac, ?_⟩)
        unfold SameB at hsb ⊢
        rw [← hH, ← hnx]; exact hsb
    · exact .inr ⟨by rw [← opR_congr hev hH hnx]; exact hs.1, by rw [← okW_congr hev hnx]; exact hs.2⟩
  · exact .inr ⟨hg, hs.1, by rw [hs.2.1, hH], by rw [hs.2.2, hnx]⟩

theorem guard_withH (ops : Array Oper) (st : St) (o : Oper) (H : HM) (nx : Nat) : guardD ops (st.withH H nx) o = guardD ops st o := rfl

theorem stepE_cls0 {own : List Nat} {ops : Array Oper} {o : Oper} {st : St} {d : D} {H : HM} {nx : Nat} (hc : cls own o = 0) (hs : stepE P own ops o st d H nx) :
    H = st.H ∧ nx = st.nx ∧ ∀ H2 nx2, stepE P own ops o (st.withH H2 nx2) d H2 nx2 := by
  unfold stepE at *
  rcases hs with ⟨hg, hs⟩ | ⟨hg, h1, h2, h3⟩
  · rcases hs with ⟨f, args, tys, g, cap, hop, hf, ⟨h0, _⟩ | ⟨h0, hrc, h1, h2⟩ | ⟨h0, _⟩⟩ | hs
    · unfold cls at hc; rw [hop] at hc; simp only [h0, Bool.false_eq_true, if_false] at hc; split at hc <;> cases hc
    · exact ⟨h1, h2, fun H2 nx2 => .inl ⟨hg, .inl ⟨f, args, tys, g, cap, hop, by rw [ev_withH]; exact hf, .inr (.inl ⟨h0, by rw [ev_withH]; exact hrc, rfl, rfl⟩)⟩⟩⟩
    · unfold cls at hc; rw [hop] at hc; simp only [h0, Bool.false_eq_true, if_false] at hc; split at hc <;> cases hc
    · obtain ⟨h1, h2, h3⟩ := opR_cls0 hc hs.1
      refine ⟨h1, h2, fun H2 nx2 => .inl ⟨hg, .inr ⟨h3 H2 nx2, ?_⟩⟩⟩
      unfold cls at hc
      unfold okW
      split
      · rename_i hop
        simp only [hop] at hc
        rw [if_neg]
        rintro ⟨_, ho⟩
        rw [if_pos ho] at hc; cases hc
      · rename_i hop; simp only [hop] at hc; cases hc
      · rename_i hop; simp only [hop] at hc; cases hc
      · rename_i hop; simp only [hop] at hc; cases hc
      · rename_i hop
        simp only [hop] at hc
        split at hc <;> cases hc
      · rfl
  · exact ⟨h2, h3, fun H2 nx2 => .inr ⟨hg, h1, rfl, rfl⟩⟩
theorem stepE_cls1 {own : List Nat} {ops : Array Oper} {o : Oper} {st : St} {d : D} {H : HM} {nx : Nat} (hc : cls own o ≤ 1) (hs : stepE P own ops o st d H nx) : H = st.H ∧ nx = st.nx := by
  unfold stepE at hs
  rcases hs with ⟨hg, hs⟩ | ⟨hg, h1, h2, h3⟩
  · rcases hs with ⟨f, args, tys, g, cap, hop, _, ⟨_, _, h1, h2⟩ | ⟨_, _, h1, h2⟩ | ⟨h0, hm, _⟩⟩ | hs
    · exact ⟨h1, h2⟩
    · exact ⟨h1, h2⟩
    · unfold cls at hc; rw [hop] at hc; simp only [h0, hm, if_true, Bool.false_eq_true, if_false] at hc; omega
    · exact opR_cls1 hc hs.1
  · exact ⟨h2, h3⟩

theorem put_t_other {st : St} {dst : Option Nat} {d : D} {t : Nat} (h : dst ≠ some t) : (st.put dst d).t t = st.t t := by
  cases dst with
  | none => rfl
  | some i => simp only [St.put, updT]; rw [if_neg (fun e => h (by rw [e]))]
theorem put_H (st : St) (dst : Option Nat) (d : D) : (st.put dst d).H = st.H := by cases dst <;> rfl
theorem put_nx (st : St) (dst : Option Nat) (d : D) : (st.put dst d).nx = st.nx := by cases dst <;> rfl
theorem next_H (st : St) (o : Oper) (d : D) (H : HM) (nx : Nat) : (st.next o d H nx).H = H := by unfold St.next; rw [put_H]; rfl
theorem next_nx (st : St) (o : Oper) (d : D) (H : HM) (nx : Nat) : (st.next o d H nx).nx = nx := by unfold St.next; rw [put_nx]; rfl
theorem next_other {st : St} {o : Oper} {d : D} {H : HM} {nx t : Nat} (h : o.dst ≠ some t) : (st.next o d H nx).t t = st.t t := by unfold St.next; rw [put_t_other h]; rfl

theorem next_comm {st : St} {x y : Oper} {dx dy : D} {H1 H2 H3 : HM} {n1 n2 n3 : Nat} (h : ∀ d, x.dst = some d → y.dst ≠ some d) :
    (st.next x dx H1 n1).next y dy H3 n3 = (st.next y dy H2 n2).next x dx H3 n3 := by
  unfold St.next St.withH St.put
  cases hx : x.dst with
  | none => cases hy : y.dst <;> rfl
  | some i =>
    cases hy : y.dst with
    | none => rfl
    | some j =>
      have hij : j ≠ i := fun e => h i hx (by rw [hy, e])
      simp only [St.mk.injEq, and_true]
      funext k
      simp only [updT]
      by_cases h1 : k = j
      · subst h1; rw [if_pos rfl, if_neg hij, if_pos rfl]
      · rw [if_neg h1]
        by_cases h2 : k = i
        · rw [if_pos h2, if_pos h2]
        · rw [if_neg h2, if_neg h2, if_neg h1]

/-- A load that looks into boxes alone; an operation that leaves the boxes. -/
def looksB (own : List Nat) (o : Oper) : Bool :=
  match o.op with
  | .load _ _ => isMark 3000000 own o.dst
  | _ => false
def keepsB (own : List Nat) (o : Oper) : Bool :=
  match o.op with
  | .call { callee := .value _, .. } => isMark 4000000 own o.dst
  | .call { callee := .builtin .append, .. } => true
  | .buildSlice .. => true
  | _ => false
theorem sameB_self (st : St) : SameB st st.H st.nx := ⟨Nat.le_refl _, fun _ => ⟨fun _ _ _ h => h, fun h _ _ h2 => ⟨h, h2⟩⟩⟩
theorem sameB_row (st : St) {id0 : Nat} {o o' : HObj} (h0 : st.H id0 = some o) (hb : ∀ e cs, o ≠ .box e cs) (hb' : ∀ e cs, o' ≠ .box e cs) : SameB st (updH st.H id0 (some o')) st.nx := by
  refine ⟨Nat.le_refl _, fun id => ⟨fun _ e cs h => ?_, fun hlt e cs h => ⟨hlt, ?_⟩⟩⟩
  · unfold updH
    by_cases he : id = id0
    · subst he; rw [h0] at h; cases h; exact (hb _ _ rfl).elim
    · rw [if_neg he]; exact h
  · unfold updH at h
    by_cases he : id = id0
    · rw [if_pos he] at h; cases h; exact (hb' _ _ rfl).elim
    · rw [if_neg he] at h; exact h
theorem sameB_new (st : St) {o' : HObj} (hb' : ∀ e cs, o' ≠ .box e cs) : SameB st (updH st.H st.nx (some o')) (st.nx + 1) := by
  refine ⟨by omega, fun id => ⟨fun hlt e cs h => ?_, fun hlt e cs h => ?_⟩⟩
  · unfold updH; rw [if_neg (by omega)]; exact h
  · unfold updH at h
    by_cases he : id = st.nx
    · rw [if_pos he] at h; cases h; exact (hb' _ _ rfl).elim
    · rw [if_neg he] at h; exact ⟨by omega, h⟩
theorem sameB_drop (st : St) {H : HM} {nx id0 : Nat} {o : HObj} (h : SameB st H nx) (h0 : H id0 = some o) (hb : ∀ e cs, o ≠ .box e cs) : SameB st (updH H id0 none) nx := by
  refine ⟨h.1, fun id => ⟨fun hlt e cs h1 => ?_, fun hlt e cs h1 => ?_⟩⟩
  · have h2 := (h.2 id).1 hlt e cs h1
    unfold updH
    by_cases he : id = id0
    · subst he; rw [h0] at h2; cases h2; exact (hb _ _ rfl).elim
    · rw [if_neg he]; exact h2
  · unfold updH at h1
    by_cases he : id = id0
    · rw [if_pos he] at h1; cases h1
    · rw [if_neg he] at h1; exact (h.2 id).2 hlt e cs h1
theorem appendD_sameB {st : St} {t : TypeId} {x y d : D} {H : HM} {nx : Nat} (h : appendD P st.H st.nx t x y = some (d, H, nx)) : SameB st H nx := by
  unfold appendD at h
  split at h
  · split at h
    · simp only [Option.bind_eq_some_iff] at h
      obtain ⟨⟨m, news⟩, _, h⟩ := h
      simp only at h
      split at h
      · split at h
        · simp only [Option.some.injEq, Prod.mk.injEq] at h
          obtain ⟨_, rfl, rfl⟩ := h
          exact sameB_new st (by intro e cs h; cases h)
        · cases h
      · split at h
        · rename_i hid
          split at h
          · simp only [Option.some.injEq, Prod.mk.injEq] at h
            obtain ⟨_, rfl, rfl⟩ := h
            exact sameB_row st hid (by intro e cs h; cases h) (by intro e cs h; cases h)
          · cases h
        · cases h
      · cases h
    · cases h
  · cases h
theorem shutR_sameB {st : St} {d d' : D} {H H' : HM} {nx nx' : Nat} (h0 : SameB st H nx) (h : shutR P (d, H, nx) = some (d', H', nx')) : SameB st H' nx' := by
  unfold shutR at h
  split at h
  · rename_i heq
    cases heq
    split at h
    · rename_i hid
      split at h
      · simp only [Option.some.injEq, Prod.mk.injEq] at h
        obtain ⟨_, rfl, rfl⟩ := h
        exact sameB_drop st h0 hid (by intro e cs h; cases h)
      · cases h
    · cases h
  · cases h
theorem keepsB_opR {own : List Nat} {o : Oper} {st : St} {d : D} {H : HM} {nx : Nat} (hk : keepsB own o = true) (h : opR P own o st = some (d, H, nx)) : SameB st H nx := by
  unfold keepsB at hk
  split at hk
  · rename_i hop
    unfold opR at h
    simp only [hop] at h
    cases h
  · rename_i hop
    unfold opR at h
    simp only [hop] at h
    split at h
    all_goals first
      | (simp only [reduceCtorEq] at *; done)
      | skip
    · split at h
      · split at h
        · obtain ⟨_, rfl, rfl⟩ := keep_some h
          exact sameB_self st
        · split at h
          · simp only [Option.bind_eq_some_iff] at h
            obtain ⟨⟨d1, H1, n1⟩, h1, h2⟩ := h
            exact shutR_sameB (appendD_sameB h1) h2
          · exact appendD_sameB h
      · cases h
  · rename_i hop
    unfold opR at h
    simp only [hop] at h
    split at h
    · split at h
      · simp only [Option.bind_eq_some_iff] at h
        obtain ⟨cs, _, h⟩ := h
        split at h
        · simp only [Option.some.injEq, Prod.mk.injEq] at h
          obtain ⟨_, rfl, rfl⟩ := h
          exact sameB_new st (fun e cs h => by cases h)
        · split at h
          · simp only [Option.some.injEq, Prod.mk.injEq] at h
            obtain ⟨_, rfl, rfl⟩ := h
            exact sameB_self st
          · simp only [Option.some.injEq, Prod.mk.injEq] at h
            obtain ⟨_, rfl, rfl⟩ := h
            exact sameB_self st
      · cases h
    · cases h
  · cases hk
theorem stepE_keepsB {own : List Nat} {ops : Array Oper} {o : Oper} {st : St} {d : D} {H : HM} {nx : Nat} (hk : keepsB own o = true) (hs : stepE P own ops o st d H nx) : SameB st H nx := by
  unfold stepE at hs
  rcases hs with ⟨hg, hs⟩ | ⟨hg, h1, h2, h3⟩
  · rcases hs with ⟨f, args, tys, g, cap, hop, _, ⟨_, _, h1, h2⟩ | ⟨_, _, h1, h2⟩ | ⟨_, _, _, hsb⟩⟩ | hs
    · subst h1; subst h2; exact sameB_self st
    · subst h1; subst h2; exact sameB_self st
    · exact hsb
    · exact keepsB_opR hk hs.1
  · subst h2; subst h3; exact sameB_self st
theorem loadB_same {st : St} {H : HM} {nx : Nat} {t : TypeId} {p d : D} (hb : SameB st H nx) : (loadB P st.H st.nx t p = some d → loadB P H nx t p = some d) ∧ (loadB P H nx t p = some d → loadB P st.H st.nx t p = some d) := by
  cases p <;> first | (constructor <;> intro h <;> exact h) | skip
  rename_i id off
  simp only [loadB, loadD]
  constructor
  · intro h
    split at h
    · rename_i hlt
      rw [if_pos (Nat.lt_of_lt_of_le hlt hb.1)]
      split at h
      · rename_i hid
        rw [(hb.2 id).1 hlt _ _ hid]; exact h
      · cases h
    · cases h
  · intro h
    split at h
    · rename_i hlt
      split at h
      · rename_i hid
        obtain ⟨h1, h2⟩ := (hb.2 id).2 hlt _ _ hid
        rw [if_pos h1, h2]; exact h
      · cases h
    · cases h
theorem looksB_opR {own : List Nat} {o : Oper} (hl : looksB own o = true) : ∃ t p, o.op = .load t p ∧ ∀ st : St, opR P own o st = st.keep (loadB P st.H st.nx t (st.ev p)) := by
  unfold looksB at hl
  split at hl
  · rename_i t p hop
    refine ⟨t, p, hop, fun st => ?_⟩
    unfold opR
    simp only [hop, loadG, hl, if_true]
  · cases hl
theorem looksB_cls {own : List Nat} {o : Oper} (hl : looksB own o = true) : cls own o = 1 := by
  unfold looksB at hl
  split at hl
  · rename_i hop
    unfold cls; rw [hop]
  · cases hl
theorem stepE_looksB {own : List Nat} {ops : Array Oper} {o : Oper} {st : St} {d : D} {H : HM} {nx : Nat} (hl : looksB own o = true) (hb : SameB st H nx) :
    (stepE P own ops o st d st.H st.nx → stepE P own ops o (st.withH H nx) d H nx) ∧ (stepE P own ops o (st.withH H nx) d H nx → stepE P own ops o st d st.H st.nx) := by
  obtain ⟨t, p, hop, hop2⟩ := looksB_opR (P := P) hl
  obtain ⟨k1, k2⟩ := loadB_same (P := P) (t := t) (p := st.ev p) (d := d) hb
  have e1 : opR P own o (st.withH H nx) = (loadB P H nx t (st.ev p)).map fun d => (d, H, nx) := by rw [hop2, ev_withH]; rfl
  have e2 : opR P own o st = (loadB P st.H st.nx t (st.ev p)).map fun d => (d, st.H, st.nx) := by rw [hop2]; rfl
  constructor
  · intro hs
    unfold stepE at *
    rcases hs with ⟨hg, hs⟩ | ⟨hg, h1, _, _⟩
    · refine .inl ⟨hg, .inr ?_⟩
      rcases hs with ⟨f, args, tys, g, cap, hop', _⟩ | hs
      · rw [hop] at hop'; cases hop'
      · rw [e2, Option.map_eq_some_iff] at hs
        obtain ⟨⟨d1, h1, h2⟩, hok⟩ := hs
        simp only [Prod.mk.injEq, and_true] at h2
        subst h2
        rw [e1, k1 h1]; exact ⟨rfl, by rw [okW_load hop]; exact hok⟩
    · exact .inr ⟨hg, h1, rfl, rfl⟩
  · intro hs
    unfold stepE at *
    rcases hs with ⟨hg, hs⟩ | ⟨hg, h1, _, _⟩
    · refine .inl ⟨hg, .inr ?_⟩
      rcases hs with ⟨f, args, tys, g, cap, hop', _⟩ | hs
      · rw [hop] at hop'; cases hop'
      · rw [e1, Option.map_eq_some_iff] at hs
        obtain ⟨⟨d1, h1, h2⟩, hok⟩ := hs
        simp only [Prod.mk.injEq, and_true] at h2
        subst h2
        rw [e2, k2 h1]; exact ⟨rfl, by rw [okW_load hop] at hok; exact hok⟩
    · exact .inr ⟨hg, h1, rfl, rfl⟩
/-- An allocation leaves what was there. -/
def newB (o : Oper) : Bool :=
  match o.op with
  | .alloc _ => true
  | _ => false
def SameF (st : St) (H : HM) (nx : Nat) : Prop := st.nx ≤ nx ∧ ∀ id, id < st.nx → ∀ e cs, st.H id = some (.box e cs) → H id = some (.box e cs)
theorem stepE_newB {own : List Nat} {ops : Array Oper} {o : Oper} {st : St} {d : D} {H : HM} {nx : Nat} (hk : newB o = true) (hs : stepE P own ops o st d H nx) : SameF st H nx := by
  have h0 : SameF st st.H st.nx := ⟨Nat.le_refl _, fun _ _ _ _ h => h⟩
  unfold newB at hk
  split at hk
  · rename_i e hop
    unfold stepE at hs
    rcases hs with ⟨hg, ⟨f, args, tys, g, cap, hop2, _⟩ | hs⟩ | ⟨hg, h1, h2, h3⟩
    · rw [hop] at hop2; cases hop2
    · unfold opR at hs
      simp only [hop, Option.map_eq_some_iff, Prod.mk.injEq] at hs
      obtain ⟨⟨zs, _, _, rfl, rfl⟩, _⟩ := hs
      refine ⟨Nat.le_succ _, fun id hlt e cs h => ?_⟩
      unfold updH
      rw [if_neg (by omega)]; exact h
    · subst h2; subst h3; exact h0
  · cases hk
theorem loadB_sameF {st : St} {H : HM} {nx : Nat} {t : TypeId} {p d : D} (hb : SameF st H nx) (h : loadB P st.H st.nx t p = some d) : loadB P H nx t p = some d := by
  cases p <;> first | exact h | skip
  rename_i id off
  simp only [loadB, loadD] at h ⊢
  split at h
  · rename_i hlt
    rw [if_pos (Nat.lt_of_lt_of_le hlt hb.1)]
    split at h
    · rename_i hid
      rw [hb.2 id hlt _ _ hid]; exact h
    · cases h
  · cases h
theorem stepE_looksF {own : List Nat} {ops : Array Oper} {o : Oper} {st : St} {d : D} {H : HM} {nx : Nat} (hl : looksB own o = true) (hb : SameF st H nx) (hs : stepE P own ops o st d st.H st.nx) : stepE P own ops o (st.withH H nx) d H nx := by
  obtain ⟨t, p, hop, hop2⟩ := looksB_opR (P := P) hl
  have e1 : opR P own o (st.withH H nx) = (loadB P H nx t (st.ev p)).map fun d => (d, H, nx) := by rw [hop2, ev_withH]; rfl
  have e2 : opR P own o st = (loadB P st.H st.nx t (st.ev p)).map fun d => (d, st.H, st.nx) := by rw [hop2]; rfl
  unfold stepE at *
  rcases hs with ⟨hg, hs⟩ | ⟨hg, h1, _, _⟩
  · refine .inl ⟨hg, .inr ?_⟩
    rcases hs with ⟨f, args, tys, g, cap, hop', _⟩ | hs
    · rw [hop] at hop'; cases hop'
    · rw [e2, Option.map_eq_some_iff] at hs
      obtain ⟨⟨d1, h1, h2⟩, hok⟩ := hs
      simp only [Prod.mk.injEq, and_true] at h2
      subst h2
      rw [e1, loadB_sameF hb h1]; exact ⟨rfl, by rw [okW_load hop]; exact hok⟩
  · exact .inr ⟨hg, h1, rfl, rfl⟩
/-- Operations that look below the bound alone; operations that change nothing below it. -/
def looksR (own : List Nat) (o : Oper) : Bool :=
  match o.op with
  | .load .. => isMark 6000000 own o.dst && !isMark 3000000 own o.dst
  | .indexAddr .. => isMark 6000000 own o.dst && !isMark 3000000 own o.dst
  | _ => false
def keepsW (own : List Nat) (o : Oper) : Bool :=
  match o.op with
  | .buildSlice .. => isMark 7000000 own o.dst && isOwn own o.dst
  | .alloc _ => isMark 7000000 own o.dst
  | .call { callee := .builtin .append, .. } => isMark 7000000 own o.dst && !isMark 1000000 own o.dst
  | _ => false
theorem updH_ne' {H : HM} {i j : Nat} {o : Option HObj} (h : ¬ j = i) : updH H i o j = H j := if_neg h
def SameL (B : Nat) (H H' : HM) : Prop := ∀ id, id < B → H' id = H id
theorem cutB_same {B : Nat} {H H' : HM} (h : SameL B H H') : cutB B H' = cutB B H := by
  funext id
  unfold cutB
  split
  · rename_i hlt; exact h id hlt
  · rfl
theorem looksR_cls {own : List Nat} {o : Oper} (hl : looksR own o = true) : cls own o = 1 := by
  unfold looksR at hl
  split at hl
  · rename_i hop; unfold cls; rw [hop]
  · rename_i hop
    simp only [Bool.and_eq_true, Bool.not_eq_true'] at hl
    unfold cls; rw [hop]; simp only [hl.2, Bool.false_eq_true, if_false]
  · cases hl
theorem looksR_opR {own : List Nat} {o : Oper} (hl : looksR own o = true) {st : St} {H : HM} {nx : Nat} (h : SameL (boundB own) st.H H) (d : D) :
    (opR P own o st = some (d, st.H, st.nx) ↔ opR P own o (st.withH H nx) = some (d, H, nx)) := by
  have hc := cutB_same h
  unfold looksR at hl
  split at hl
  · rename_i t p hop
    simp only [Bool.and_eq_true, Bool.not_eq_true'] at hl
    unfold opR
    simp only [hop, loadG, hl.1, hl.2, Bool.false_eq_true, if_false, if_true, ev_withH]
    show (st.keep _ = _) ↔ ((st.withH H nx).keep (loadD P (cutB (boundB own) H) t (st.ev p)) = _)
    rw [hc]
    simp only [St.keep, Option.map_eq_some_iff, Prod.mk.injEq]
    constructor
    · rintro ⟨a, h1, h2, _⟩; exact ⟨a, h1, h2, by simp [St.withH]⟩
    · rintro ⟨a, h1, h2, _⟩; exact ⟨a, h1, h2, by simp⟩
  · rename_i t x i hop
    simp only [Bool.and_eq_true, Bool.not_eq_true'] at hl
    unfold opR
    simp only [hop, hmG, hl.1, hl.2, Bool.false_eq_true, if_false, if_true, ev_withH]
    show (st.keep _ = _) ↔ ((st.withH H nx).keep (indexAddrD P (cutB (boundB own) H) t (st.ev x) (st.ev i)) = _)
    rw [hc]
    simp only [St.keep, Option.map_eq_some_iff, Prod.mk.injEq]
    constructor
    · rintro ⟨a, h1, h2, _⟩; exact ⟨a, h1, h2, by simp [St.withH]⟩
    · rintro ⟨a, h1, h2, _⟩; exact ⟨a, h1, h2, by simp⟩
  · cases hl
theorem stepE_looksR {own : List Nat} {ops : Array Oper} {o : Oper} {st : St} {d : D} {H : HM} {nx : Nat} (hl : looksR own o = true) (h : SameL (boundB own) st.H H) :
    stepE P own ops o st d st.H st.nx ↔ stepE P own ops o (st.withH H nx) d H nx := by
  have hok : okW own o (st.withH H nx) = okW own o st := by
    unfold looksR at hl
    split at hl
    · rename_i hop; exact okW_load hop
    · rename_i hop; unfold okW; rw [hop]
    · cases hl
  have hno : ∀ f args tys, o.op ≠ .call { callee := .value f, args := args, argTypes := tys } := fun f args tys e => by unfold looksR at hl; rw [e] at hl; cases hl
  have hr := looksR_opR (P := P) hl (nx := nx) h d
  unfold stepE
  rw [guard_withH]
  constructor
  · rintro (⟨hg, ⟨f, args, tys, g, cap, hop, _⟩ | hs⟩ | ⟨hg, h1, _, _⟩)
    · exact (hno _ _ _ hop).elim
    · exact .inl ⟨hg, .inr ⟨hr.1 hs.1, by rw [hok]; exact hs.2⟩⟩
    · exact .inr ⟨hg, h1, rfl, rfl⟩
  · rintro (⟨hg, ⟨f, args, tys, g, cap, hop, _⟩ | hs⟩ | ⟨hg, h1, _, _⟩)
    · exact (hno _ _ _ hop).elim
    · exact .inl ⟨hg, .inr ⟨hr.2 hs.1, by rw [← hok]; exact hs.2⟩⟩
    · exact .inr ⟨hg, h1, rfl, rfl⟩
theorem appendD_sameL {B : Nat} {H : HM} {nx : Nat} {t : TypeId} {x y d : D} {H' : HM} {nx' : Nat} (h : appendD P H nx t x y = some (d, H', nx')) (hx : ∀ id n, x = .osl id n → B ≤ id) (hn : B ≤ nx) : SameL B H H' ∧ ∀ id n, d = .osl id n → B ≤ id := by
  unfold appendD at h
  split at h
  · split at h
    · simp only [Option.bind_eq_some_iff] at h
      obtain ⟨⟨m, news⟩, _, h⟩ := h
      simp only at h
      split at h
      · split at h
        · simp only [Option.some.injEq, Prod.mk.injEq] at h
          obtain ⟨rfl, rfl, _⟩ := h
          exact ⟨fun id hid => updH_ne' (by omega), fun id n e => by cases e; exact hn⟩
        · cases h
      · rename_i id0 n0
        have hb := hx _ _ rfl
        split at h
        · split at h
          · simp only [Option.some.injEq, Prod.mk.injEq] at h
            obtain ⟨rfl, rfl, _⟩ := h
            exact ⟨fun id hid => updH_ne' (by omega), fun id n e => by cases e; exact hb⟩
          · cases h
        · cases h
      · cases h
    · cases h
  · cases h
theorem shutR_sameL {B : Nat} {d d' : D} {H H' : HM} {nx nx' : Nat} (h : shutR P (d, H, nx) = some (d', H', nx')) (hd : ∀ id n, d = .osl id n → B ≤ id) : SameL B H H' := by
  unfold shutR at h
  split at h
  · rename_i id n H0 nx0 e
    simp only [Prod.mk.injEq] at e
    obtain ⟨rfl, rfl, rfl⟩ := e
    have hb := hd _ _ rfl
    split at h
    · split at h
      · simp only [Option.some.injEq, Prod.mk.injEq] at h
        obtain ⟨_, rfl, _⟩ := h
        exact fun id hid => updH_ne' (by omega)
      · cases h
    · cases h
  · cases h
theorem stepE_keepsW {own : List Nat} {ops : Array Oper} {o : Oper} {st : St} {d : D} {H : HM} {nx : Nat} (hk : keepsW own o = true) (hs : stepE P own ops o st d H nx) : SameL (boundB own) st.H H := by
  have h0 : SameL (boundB own) st.H st.H := fun _ _ => rfl
  unfold stepE at hs
  rcases hs with ⟨hg, ⟨f, args, tys, g, cap, hop, _⟩ | ⟨hs, hok⟩⟩ | ⟨hg, h1, h2, h3⟩
  · unfold keepsW at hk; rw [hop] at hk; cases hk
  · unfold keepsW at hk
    unfold okW at hok
    unfold opR at hs
    split at hk
    · rename_i hop
      simp only [Bool.and_eq_true] at hk
      simp only [hop, hk.1, hk.2, and_self, if_true, decide_eq_true_eq] at hok hs
      split at hs
      · split at hs
        · simp only [Option.bind_eq_some_iff] at hs
          obtain ⟨cs, _, hs⟩ := hs
          simp only [Option.some.injEq, Prod.mk.injEq] at hs
          obtain ⟨_, rfl, _⟩ := hs
          exact fun id hid => updH_ne' (by omega)
        · cases hs
      · cases hs
    · rename_i hop
      simp only [hop, hk, if_true, decide_eq_true_eq, Option.map_eq_some_iff, Prod.mk.injEq] at hok hs
      obtain ⟨zs, _, _, rfl, _⟩ := hs
      exact fun id hid => updH_ne' (by omega)
    · rename_i hop
      simp only [Bool.and_eq_true, Bool.not_eq_true'] at hk
      simp only [hop, hk.1, if_true] at hok hs
      split at hs
      all_goals first
        | (simp only [reduceCtorEq] at *; done)
        | skip
      · rename_i hargs _
        split at hs
        · simp only [hk.2, Bool.false_eq_true, if_false] at hs
          simp only [hargs] at hok
          have hx : ∀ id n, st.ev _ = .osl id n → boundB own ≤ id := fun id n e => by
            rw [e] at hok
            simp only [decide_eq_true_eq] at hok
            exact hok.1
          have hn : boundB own ≤ st.nx := by
            split at hok
            · simp only [decide_eq_true_eq] at hok; exact hok.2
            · simp only [decide_eq_true_eq] at hok; exact hok
          split at hs
          · simp only [Option.bind_eq_some_iff] at hs
            obtain ⟨⟨d1, H1, n1⟩, h1, h2⟩ := hs
            obtain ⟨g1, g2⟩ := appendD_sameL h1 hx hn
            have g3 := shutR_sameL h2 g2
            exact fun id hid => (g3 id hid).trans (g1 id hid)
          · exact (appendD_sameL hs hx hn).1
        · cases hs
    · cases hk
  · subst h2; exact h0
/-- The object that a marked load or store touches. -/
def touch (own : List Nat) (o : Oper) : Option Nat :=
  match o.op with
  | .store _ p _ => (slotOf p).bind fun i => touchOf i own
  | .load _ _ => if isMark 3000000 own o.dst = true ∨ isMark 6000000 own o.dst = true then none else o.dst.bind fun i => touchOf i own
  | _ => none
/-- A load and a store look at the pointer's object alone. -/
theorem loadD_ptr {H H' : HM} {t : TypeId} {id off : Nat} (h : H' id = H id) : loadD P H' t (.ptr id off) = loadD P H t (.ptr id off) := by
  unfold loadD; simp only [h]
theorem storeD_ptr {H H1 : HM} {t : TypeId} {id off : Nat} {v : D} (h : storeD P H t (.ptr id off) v = some H1) : (∀ j, j ≠ id → H1 j = H j) ∧ ∀ H', H' id = H id → storeD P H' t (.ptr id off) v = some fun j => if j = id then H1 id else H' j := by
  unfold storeD at h
  split at h
  · rename_i vs hv
    split at h
    · rename_i hl
      simp only at h
      split at h
      · rename_i e cs hH
        split at h
        · rename_i hle
          simp only [Option.some.injEq] at h
          subst h
          refine ⟨fun j hj => by unfold updH; rw [if_neg hj], fun H' hH' => ?_⟩
          unfold storeD
          simp only [hv, hH', hH, if_pos hl, if_pos hle, Option.some.injEq]
          funext j
          unfold updH
          by_cases h1 : j = id
          · rw [if_pos h1, if_pos h1, if_pos rfl]
          · rw [if_neg h1, if_neg h1]
        · cases h
      · cases h
    · cases h
  · cases h
theorem stepE_touch {own : List Nat} {ops : Array Oper} {o : Oper} {st : St} {d : D} {H : HM} {nx a : Nat} (hk : touch own o = some a) (hs : stepE P own ops o st d H nx) :
    (H = st.H ∧ nx = st.nx ∧ ∀ H2 n2, stepE P own ops o (st.withH H2 n2) d H2 n2) ∨
    ∃ id, id + 900000 = a ∧ nx = st.nx ∧ (∀ j, j ≠ id → H j = st.H j) ∧ ∀ H2 n2, H2 id = st.H id → stepE P own ops o (st.withH H2 n2) d (fun j => if j = id then H id else H2 j) n2 := by
  unfold touch at hk
  split at hk
  · rename_i t p v hop
    simp only [Option.bind_eq_some_iff] at hk
    obtain ⟨i, hi, hk⟩ := hk
    unfold stepE at hs
    rcases hs with ⟨hg, ⟨f, args, tys, g, cap, hop', _⟩ | ⟨hs, hok⟩⟩ | ⟨hg, h1, h2, h3⟩
    · rw [hop] at hop'; cases hop'
    · refine .inr ?_
      have hw : ∀ H2 n2, okW own o (st.withH H2 n2) = true := fun H2 n2 => by
        rw [← hok]; unfold okW; rw [hop]; rfl
      unfold okW at hok
      rw [hop] at hok
      simp only [okT, hi, hk] at hok
      split at hok
      · rename_i id off he
        rw [decide_eq_true_eq] at hok
        have e : ∀ st : St, opR P own o st = (storeD P st.H t (st.ev p) (st.ev v)).map fun x => (.any, x, st.nx) := fun st => by unfold opR; rw [hop]
        rw [e, Option.map_eq_some_iff] at hs
        obtain ⟨H1, h1, h2⟩ := hs
        simp only [Prod.mk.injEq] at h2
        obtain ⟨rfl, rfl, rfl⟩ := h2
        rw [he] at h1
        obtain ⟨g1, g2⟩ := storeD_ptr h1
        refine ⟨id, hok, rfl, g1, fun H2 n2 hH2 => .inl ⟨hg, .inr ⟨?_, hw H2 n2⟩⟩⟩
        rw [e, ev_withH, he]
        show (storeD P H2 t (.ptr id off) (st.ev v)).map _ = _
        rw [g2 H2 hH2]; rfl
      · cases hok
    · exact .inl ⟨h2, h3, fun H2 n2 => .inr ⟨hg, h1, rfl, rfl⟩⟩
  · rename_i t p hop
    split at hk
    · cases hk
    rename_i hm
    rw [not_or] at hm
    simp only [Option.bind_eq_some_iff] at hk
    obtain ⟨i, hi, hk⟩ := hk
    unfold stepE at hs
    rcases hs with ⟨hg, ⟨f, args, tys, g, cap, hop', _⟩ | ⟨hs, hok⟩⟩ | ⟨hg, h1, h2, h3⟩
    · rw [hop] at hop'; cases hop'
    · refine .inr ?_
      have hw : ∀ H2 n2, okW own o (st.withH H2 n2) = true := fun H2 n2 => by
        rw [← hok]; unfold okW; rw [hop]; rfl
      unfold okW at hok
      rw [hop] at hok
      simp only [okT, hi, hk] at hok
      split at hok
      · rename_i id off he
        rw [decide_eq_true_eq] at hok
        have e : ∀ st : St, opR P own o st = st.keep (loadD P st.H t (st.ev p)) := fun st => by
          unfold opR; rw [hop]
          simp only [loadG, if_neg hm.1, if_neg hm.2]
        rw [e] at hs
        obtain ⟨h1, rfl, rfl⟩ := keep_some hs
        refine ⟨id, hok, rfl, fun _ _ => rfl, fun H2 n2 hH2 => ?_⟩
        have e2 : (fun j => if j = id then st.H id else H2 j) = H2 := by
          funext j
          by_cases hj : j = id
          · rw [if_pos hj, hj, hH2]
          · rw [if_neg hj]
        rw [e2]
        refine .inl ⟨hg, .inr ⟨?_, hw H2 n2⟩⟩
        rw [he] at h1
        rw [e, keep_withH, ev_withH, he]
        show (loadD P H2 t (.ptr id off)).map _ = _
        rw [loadD_ptr hH2, h1]; rfl
      · cases hok
    · exact .inl ⟨h2, h3, fun H2 n2 => .inr ⟨hg, h1, rfl, rfl⟩⟩
  · cases hk
def apartT (own : List Nat) (x y : Oper) : Bool :=
  match touch own x, touch own y with
  | some a, some b => a != b
  | _, _ => false
/-- Two operations on objects of their own, in either order. -/
theorem swap_touch {own : List Nat} {ops : Array Oper} {x y : Oper} {st : St} {dx dy : D} {H1 H2 : HM} {n1 n2 : Nat} (ha : apartT own x y = true) (hx : stepE P own ops x st dx H1 n1) (hy : stepE P own ops y (st.withH H1 n1) dy H2 n2) :
    ∃ H3 n3, stepE P own ops y st dy H3 n3 ∧ stepE P own ops x (st.withH H3 n3) dx H2 n2 := by
  unfold apartT at ha
  split at ha
  · rename_i a b ea eb
    rw [bne_iff_ne] at ha
    rcases stepE_touch ea hx with ⟨rfl, rfl, hany⟩ | ⟨i, hi, rfl, h1, hx2⟩
    · exact ⟨H2, n2, hy, hany H2 n2⟩
    · rcases stepE_touch eb hy with ⟨rfl, rfl, hany2⟩ | ⟨j, hj, rfl, h2, hy2⟩
      · exact ⟨st.H, st.nx, hany2 st.H st.nx, by
          have := hx2 st.H st.nx rfl
          have e : (fun j => if j = i then H2 i else st.H j) = H2 := by
            funext j
            by_cases hj : j = i
            · rw [if_pos hj, hj]
            · rw [if_neg hj, h1 j hj]
          rw [e] at this; exact this⟩
      · have hne : i ≠ j := by omega
        refine ⟨fun k => if k = j then H2 j else st.H k, st.nx, hy2 st.H st.nx (h1 j fun e => hne e.symm).symm, ?_⟩
        have := hx2 (fun k => if k = j then H2 j else st.H k) st.nx (by rw [if_neg hne])
        have e : (fun k => if k = i then H1 i else if k = j then H2 j else st.H k) = H2 := by
          funext k
          by_cases h3 : k = i
          · rw [if_pos h3, h3]; exact (h2 i hne).symm
          · rw [if_neg h3]
            by_cases h4 : k = j
            · rw [if_pos h4, h4]
            · rw [if_neg h4, h2 k h4]; exact (h1 k h3).symm
        rw [e] at this; exact this
  · cases ha
def pairOK (own : List Nat) (ops : Array Oper) (x y : Oper) : Bool :=
  x.apart ops y && (cls own x == 0 || cls own y == 0 || (cls own x == 1 && cls own y == 1) || (looksB own x && keepsB own y) || (keepsB own x && looksB own y) || (looksB own x && newB y) || (looksR own x && keepsW own y) || (keepsW own x && looksR own y) || apartT own x y)

theorem swap {own : List Nat} {ops : Array Oper} {x y : Oper} {st : St} {dx dy : D} {H1 H2 : HM} {n1 n2 : Nat} (hp : pairOK own ops x y = true)
    (hx : stepE P own ops x st dx H1 n1) (hy : stepE P own ops y (st.next x dx H1 n1) dy H2 n2) :
    ∃ H3 n3, stepE P own ops y st dy H3 n3 ∧ stepE P own ops x (st.next y dy H3 n3) dx H2 n2 ∧ (st.next x dx H1 n1).next y dy H2 n2 = (st.next y dy H3 n3).next x dx H2 n2 := by
  simp only [pairOK, Bool.and_eq_true, Bool.or_eq_true, beq_iff_eq] at hp
  obtain ⟨hap, hc⟩ := hp
  obtain ⟨ha1, ha2, ha3⟩ := Oper.apart_spec hap
  have ty : ∀ t ∈ y.looksAt ops, (st.next x dx H1 n1).t t = st.t t := fun t ht => next_other (fun e => ha1 t e ht)
  have tx : ∀ H n t, t ∈ x.looksAt ops → st.t t = (st.next y dy H n).t t := fun H n t ht => (next_other (fun e => ha3 t e ht)).symm
  have hcomm := fun H3 n3 => next_comm (st := st) (x := x) (y := y) (dx := dx) (dy := dy) (H1 := H1) (H2 := H3) (H3 := H2) (n1 := n1) (n2 := n3) (n3 := n2) ha2
  rcases hc with (((((((hc | hc) | ⟨hc1, hc2⟩) | ⟨hl, hk⟩) | ⟨hk, hl⟩) | ⟨hl, hk⟩) | ⟨hl, hk⟩) | ⟨hk, hl⟩) | hl
  · -- x looks at nothing and changes nothing
    obtain ⟨rfl, rfl, hany⟩ := stepE_cls0 hc hx
    refine ⟨H2, n2, stepE_congr ty (next_H ..) (next_nx ..) hy, ?_, hcomm _ _⟩
    exact stepE_congr (st := st.withH H2 n2) (fun t ht => tx _ _ t ht) (next_H ..).symm (next_nx ..).symm (hany H2 n2)
  · obtain ⟨h1, h2, hany⟩ := stepE_cls0 hc hy
    rw [next_H] at h1; rw [next_nx] at h2
    subst h1; subst h2
    have hy' := hany st.H st.nx
    refine ⟨st.H, st.nx, stepE_congr (st := (st.next x dx H2 n2).withH st.H st.nx) ty rfl rfl hy', ?_, hcomm _ _⟩
    exact stepE_congr (fun t ht => tx _ _ t ht) (next_H ..).symm (next_nx ..).symm hx
  · obtain ⟨rfl, rfl⟩ := stepE_cls1 (by omega) hx
    obtain ⟨h1, h2⟩ := stepE_cls1 (by omega) hy
    rw [next_H] at h1; rw [next_nx] at h2
    subst h1; subst h2
    refine ⟨st.H, st.nx, stepE_congr ty (next_H ..) (next_nx ..) hy, ?_, hcomm _ _⟩
    exact stepE_congr (fun t ht => tx _ _ t ht) (next_H ..).symm (next_nx ..).symm hx
  · -- x looks into boxes, y leaves them
    obtain ⟨rfl, rfl⟩ := stepE_cls1 (by rw [looksB_cls hl]; omega) hx
    have hy' : stepE P own ops y st dy H2 n2 := stepE_congr ty (next_H ..) (next_nx ..) hy
    have hs := stepE_keepsB hk hy'
    refine ⟨H2, n2, hy', ?_, hcomm _ _⟩
    exact stepE_congr (st := st.withH H2 n2) (fun t ht => tx _ _ t ht) (next_H ..).symm (next_nx ..).symm ((stepE_looksB hl hs).1 hx)
  · have hs := stepE_keepsB hk hx
    obtain ⟨h1, h2⟩ := stepE_cls1 (by rw [looksB_cls hl]; omega) hy
    rw [next_H] at h1; rw [next_nx] at h2
    subst h1; subst h2
    have hy' : stepE P own ops y (st.withH H2 n2) dy H2 n2 := stepE_congr ty (next_H ..) (next_nx ..) hy
    refine ⟨st.H, st.nx, (stepE_looksB hl hs).2 hy', ?_, hcomm _ _⟩
    exact stepE_congr (fun t ht => tx _ _ t ht) (next_H ..).symm (next_nx ..).symm hx

  · obtain ⟨rfl, rfl⟩ := stepE_cls1 (by rw [looksB_cls hl]; omega) hx
    have hy' : stepE P own ops y st dy H2 n2 := stepE_congr ty (next_H ..) (next_nx ..) hy
    have hs := stepE_newB hk hy'
    refine ⟨H2, n2, hy', ?_, hcomm _ _⟩
    exact stepE_congr (st := st.withH H2 n2) (fun t ht => tx _ _ t ht) (next_H ..).symm (next_nx ..).symm (stepE_looksF hl hs hx)

  · obtain ⟨rfl, rfl⟩ := stepE_cls1 (by rw [looksR_cls hl]; omega) hx
    have hy' : stepE P own ops y st dy H2 n2 := stepE_congr ty (next_H ..) (next_nx ..) hy
    have hs := stepE_keepsW hk hy'
    refine ⟨H2, n2, hy', ?_, hcomm _ _⟩
    exact stepE_congr (st := st.withH H2 n2) (fun t ht => tx _ _ t ht) (next_H ..).symm (next_nx ..).symm ((stepE_looksR hl hs).1 hx)
  · have hs := stepE_keepsW hk hx
    obtain ⟨h1, h2⟩ := stepE_cls1 (by rw [looksR_cls hl]; omega) hy
    rw [next_H] at h1; rw [next_nx] at h2
    subst h1; subst h2
    have hy' : stepE P own ops y (st.withH H2 n2) dy H2 n2 := stepE_congr ty (next_H ..) (next_nx ..) hy
    refine ⟨st.H, st.nx, (stepE_looksR hl hs).2 hy', ?_, hcomm _ _⟩
    exact stepE_congr (fun t ht => tx _ _ t ht) (next_H ..).symm (next_nx ..).symm hx
  · have hy' : stepE P own ops y (st.withH H1 n1) dy H2 n2 := stepE_congr ty (next_H ..) (next_nx ..) hy
    obtain ⟨H3, n3, g1, g2⟩ := swap_touch hl hx hy'
    exact ⟨H3, n3, g1, stepE_congr (st := st.withH H3 n3) (fun t ht => tx _ _ t ht) (next_H ..).symm (next_nx ..).symm g2, hcomm _ _⟩

/-- Operations by their numbers, one after the other. -/
def runL (P : Program) (own : List Nat) (ops : Array Oper) (K : St → Prop) : List Nat → St → Prop
  | [], st => K st
  | i :: rest, st => ∃ o d H nx, ops[i]? = some o ∧ stepE P own ops o st d H nx ∧ runL P own ops K rest (st.next o d H nx)

theorem pull {own : List Nat} {ops : Array Oper} {K : St → Prop} {i : Nat} {oi : Oper} (hi : ops[i]? = some oi) : ∀ (r1 r2 : List Nat) (st : St),
    (∀ j ∈ r1, ∀ oj, ops[j]? = some oj → pairOK own ops oj oi = true) → runL P own ops K (r1 ++ i :: r2) st → runL P own ops K (i :: (r1 ++ r2)) st
  | [], r2, st, _, h => h
  | j :: r1, r2, st, hp, h => by
    simp only [List.cons_append, runL] at h
    obtain ⟨oj, dj, Hj, nj, hoj, hsj, h⟩ := h
    have h' := pull hi r1 r2 _ (fun k hk => hp k (List.mem_cons_of_mem _ hk)) h
    simp only [runL] at h'
    obtain ⟨o', di, Hi, ni, hoi, hsi, h'⟩ := h'
    rw [hi] at hoi
    cases hoi
    obtain ⟨H3, n3, h1, h2, h3⟩ := swap (hp j (by simp) oj hoj) hsj hsi
    simp only [List.cons_append, runL]
    exact ⟨oi, di, H3, n3, hi, h1, oj, dj, Hi, ni, hoj, h2, by rw [← h3]; exact h'⟩

/-- Must operation j come up before operation i? -/
def reach (ops : Array Oper) : Nat → Nat → Nat → Bool
  | 0, _, _ => false
  | n + 1, j, i => match ops[i]? with
    | some o => o.after.toList.any fun e => Region.binds .any e && (e.on == j || (decide (j < e.on) && reach ops n j e.on))
    | none => false
def drawOK (own : List Nat) (ops : Array Oper) : Bool :=
  (List.range ops.size).all fun i => match ops[i]? with
    | none => true
    | some oi => (oi.after.toList.all fun e => !Region.binds .any e || decide (e.on < i)) &&
      (List.range i).all fun j => match ops[j]? with
        | some oj => pairOK own ops oj oi || reach ops ops.size j i
        | none => true

def Closed (ops : Array Oper) (listed : Array Bool) : Prop :=
  ∀ k o, ops[k]? = some o → listed.getD k true = true → ∀ e ∈ o.after.toList, Region.binds .any e = true → listed.getD e.on false = true

theorem reach_listed {ops : Array Oper} {listed : Array Bool} (hsz : listed.size = ops.size) (hc : Closed ops listed) : ∀ (n j i : Nat), reach ops n j i = true →
    (∀ o, ops[i]? = some o → ∀ e ∈ o.after.toList, Region.binds .any e = true → listed.getD e.on false = true) → listed.getD j false = true
  | 0, j, i, h, _ => by cases h
  | n + 1, j, i, h, hi => by
    simp only [reach] at h
    split at h
    · rename_i o ho
      obtain ⟨e, he, hb⟩ := List.any_eq_true.1 h
      simp only [Bool.and_eq_true, Bool.or_eq_true, beq_iff_eq, decide_eq_true_eq] at hb
      obtain ⟨hb1, hb2⟩ := hb
      have hl := hi o ho e he hb1
      rcases hb2 with rfl | ⟨_, hr⟩
      · exact hl
      · refine reach_listed hsz hc n j e.on hr fun o' ho' => hc e.on o' ho' ?_
        have hlt : e.on < ops.size := (Array.getElem?_eq_some_iff.1 ho').1
        simp only [Array.getD_eq_getD_getElem?] at hl ⊢
        rw [Array.getElem?_eq_getElem (by omega)] at hl ⊢
        simpa using hl
    · cases h

def rem (ops : Array Oper) (listed : Array Bool) : List Nat := (List.range ops.size).filter fun i => !listed.getD i true

theorem filter_split {p : Nat → Bool} : ∀ (l : List Nat) (i : Nat), l.Pairwise (· < ·) → i ∈ l → p i = true → ∃ r1 r2, l.filter p = r1 ++ i :: r2 ∧ l.filter (fun k => p k && k != i) = r1 ++ r2 ∧ ∀ j ∈ r1, j < i ∧ p j = true
  | [], i, _, hi, _ => by cases hi
  | a :: l, i, hs, hi, hp => by
    have hs' := List.pairwise_cons.1 hs
    rcases List.mem_cons.1 hi with rfl | hi
    · refine ⟨[], l.filter p, by simp [hp], ?_, by simp⟩
      simp only [List.filter_cons, hp, bne_self_eq_false, Bool.and_false, Bool.false_eq_true, if_false, List.nil_append]
      refine List.filter_congr fun k hk => ?_
      have : k ≠ i := by have := hs'.1 k hk; omega
      simp [this]
    · obtain ⟨r1, r2, h1, h2, h3⟩ := filter_split l i hs'.2 hi hp
      have hai : a < i := hs'.1 i hi
      have hne : (a != i) = true := by simp; omega
      by_cases hpa : p a = true
      · refine ⟨a :: r1, r2, by simp [hpa, h1], by simp [hpa, hne, h2], fun j hj => ?_⟩
        rcases List.mem_cons.1 hj with rfl | hj
        · exact ⟨hai, hpa⟩
        · exact h3 j hj
      · refine ⟨r1, r2, by simp [hpa, h1], by simp [hpa, h2], h3⟩

theorem getD_set (l : Array Bool) (i k : Nat) : (l.setIfInBounds i true).getD k true = (l.getD k true || k == i) := by
  simp only [Array.getD_eq_getD_getElem?, Array.getElem?_setIfInBounds]
  by_cases h : i = k
  · subst h
    by_cases h2 : i < l.size <;> simp [h2]
  · have : (k == i) = false := by simp; omega
    simp [h, this]
theorem getD_set' (l : Array Bool) (i k : Nat) : l.getD k false = true → (l.setIfInBounds i true).getD k false = true := by
  simp only [Array.getD_eq_getD_getElem?, Array.getElem?_setIfInBounds]
  by_cases h : i = k
  · subst h
    by_cases h2 : i < l.size <;> simp [h2]
  · simp [h]

theorem opW_of_step {own : List Nat} {ops : Array Oper} {o : Oper} {st : St} {d : D} {H : HM} {nx : Nat} (hg : guardD ops st o = some true) (hs : stepE P own ops o st d H nx) : opW P own o st (fun st' => st' = st.next o d H nx) := by
  unfold stepE at hs
  rcases hs with ⟨_, hs⟩ | ⟨hg2, _⟩
  · rcases hs with ⟨f, args, tys, g, cap, hop, hf, ⟨_, hrc, rfl, rfl⟩ | ⟨_, hrc, rfl, rfl⟩ | ⟨_, _, hac, _⟩⟩ | hs
    · unfold opW
      rw [hop]
      simp only [hf]
      exact AC.mono hrc fun r H nx ⟨h1, h2, h3⟩ => by subst h1; subst h2; subst h3; rfl
    · unfold opW
      rw [hop]
      simp only [hf]
      exact AC.mono (hrc _ _) fun r H nx ⟨h1, h2, h3⟩ => by subst h1; subst h2; subst h3; rfl
    · unfold opW
      rw [hop]
      simp only [hf]
      exact AC.mono hac fun r H nx ⟨h1, h2, h3⟩ => by subst h1; subst h2; subst h3; rfl
    · obtain ⟨hs, _⟩ := hs
      unfold opW
      split
      · rename_i f args tys hop
        unfold opR at hs
        rw [hop] at hs
        cases hs
      · rw [hs]; rfl
  · rw [hg] at hg2; cases hg2

theorem any_sound {N : Nat} {own : List Nat} {ops : Array Oper} {K : St → Prop} {Q : Exit → Act → World → Prop} (hok : drawOK own ops = true) (hdst : ∀ (i : Nat) o, ops[i]? = some o → dstOK N o = true) :
    ∀ (fuel : Nat) (listed : Array Bool) (st : St) (s : RS) (a : Act) (w : World), (rem ops listed).length ≤ fuel → listed.size = ops.size → Closed ops listed → runL P own ops K (rem ops listed) st → Fr P N st s a w →
    (∀ st' s' a' w', K st' → Fr P N st' s' a' w' → Step s w s' w' → Q .normal a' w') → wpAny P .any ops Q fuel listed a w := by
  have hready : ∀ listed i, i ∈ Region.ready .any ops listed → i < ops.size ∧ listed.getD i true = false ∧ ∀ o, ops[i]? = some o → ∀ e ∈ o.after.toList, Region.binds .any e = true → listed.getD e.on false = true := by
    intro listed i hi
    simp only [Region.ready, List.mem_filter, List.mem_range, Bool.and_eq_true, Bool.not_eq_true'] at hi
    obtain ⟨h1, h2, h3⟩ := hi
    refine ⟨h1, h2, fun o ho e he hb => ?_⟩
    rw [ho] at h3
    simp only [Option.map_some, Option.getD_some, Array.all_eq_true'] at h3
    have := h3 e (by simpa using he)
    simpa [hb] using this
  have hfirst : ∀ listed : Array Bool, listed.size = ops.size → Region.ready .any ops listed = [] → rem ops listed = [] := by
    intro listed hsz hr
    cases hrem : rem ops listed with
    | nil => rfl
    | cons i r =>
      exfalso
      have hmem : ∀ k, k ∈ rem ops listed ↔ k < ops.size ∧ listed.getD k true = false := by
        intro k; simp only [rem, List.mem_filter, List.mem_range, Bool.not_eq_true']
      have hi := (hmem i).1 (by rw [hrem]; simp)
      have hmin : ∀ k, k < i → listed.getD k true = true := by
        intro k hk
        cases hl : listed.getD k true with
        | true => rfl
        | false =>
          have hk' := (hmem k).2 ⟨by omega, hl⟩
          have hpw : (rem ops listed).Pairwise (· < ·) := List.Pairwise.filter _ List.pairwise_lt_range
          rw [hrem] at hk' hpw
          rcases List.mem_cons.1 hk' with rfl | hk'
          · omega
          · have := (List.pairwise_cons.1 hpw).1 k hk'; omega
      have : i ∈ Region.ready .any ops listed := by
        simp only [Region.ready, List.mem_filter, List.mem_range, Bool.and_eq_true, Bool.not_eq_true']
        refine ⟨hi.1, hi.2, ?_⟩
        have hoi := Array.getElem?_eq_getElem hi.1
        rw [hoi]
        simp only [Option.map_some, Option.getD_some, Array.all_eq_true']
        intro e he
        have h1 := List.all_eq_true.1 hok i (by simpa using hi.1)
        rw [hoi] at h1
        simp only [Bool.and_eq_true] at h1
        have h2 := List.all_eq_true.1 h1.1 e (by simpa using he)
        simp only [Bool.or_eq_true, Bool.not_eq_true', decide_eq_true_eq] at h2 ⊢
        rcases h2 with h2 | h2
        · exact .inl h2
        · refine .inr ?_
          have h3 := hmin e.on h2
          have hlt : e.on < listed.size := by omega
          simp only [Array.getD_eq_getD_getElem?, Array.getElem?_eq_getElem hlt, Option.getD_some] at h3 ⊢
          exact h3
      rw [hr] at this; cases this
  intro fuel
  induction fuel with
  | zero =>
    intro listed st s a w hlen _ _ hrun hf hk
    have h0 : rem ops listed = [] := List.eq_nil_of_length_eq_zero (by omega)
    rw [h0] at hrun
    refine ⟨?_, hk st s a w hrun hf (Step.refl s w)⟩
    cases hr : Region.ready .any ops listed with
    | nil => rfl
    | cons i r =>
      have := hready listed i (by rw [hr]; simp)
      have hm : i ∈ rem ops listed := List.mem_filter.2 ⟨by simpa using this.1, by rw [this.2.1]; rfl⟩
      rw [h0] at hm; cases hm
  | succ fuel ih =>
    intro listed st s a w hlen hsz hclosed hrun hf hk
    refine ⟨fun hr => ?_, fun i hi => ?_⟩
    · rw [hfirst listed hsz hr] at hrun
      exact hk st s a w hrun hf (Step.refl s w)
    · obtain ⟨h1, h2, h3⟩ := hready listed i hi
      have hoi := Array.getElem?_eq_getElem h1
      obtain ⟨r1, r2, e1, e2, e3⟩ := filter_split (p := fun k => !listed.getD k true) (List.range ops.size) i List.pairwise_lt_range (by simpa using h1) (by rw [h2]; rfl)
      have hrem : rem ops listed = r1 ++ i :: r2 := e1
      have hrem' : rem ops (listed.setIfInBounds i true) = r1 ++ r2 := by
        rw [← e2]
        refine List.filter_congr fun k _ => ?_
        rw [getD_set]
        cases listed.getD k true <;> simp [bne]
      rw [hrem] at hrun
      have hpull := pull hoi r1 r2 st (fun j hj oj hoj => by
        obtain ⟨hji, hjl⟩ := e3 j hj
        have g1 := List.all_eq_true.1 hok i (by simpa using h1)
        rw [hoi] at g1
        simp only [Bool.and_eq_true] at g1
        have g2 := List.all_eq_true.1 g1.2 j (by simpa using hji)
        rw [hoj] at g2
        simp only [Bool.or_eq_true] at g2
        rcases g2 with g2 | g2
        · exact g2
        · exfalso
          have := reach_listed hsz hclosed _ _ _ g2 h3
          simp only [Bool.not_eq_true'] at hjl
          have hlt : j < listed.size := by omega
          simp only [Array.getD_eq_getD_getElem?, Array.getElem?_eq_getElem hlt, Option.getD_some] at this hjl
          rw [this] at hjl; cases hjl) hrun
      simp only [runL] at hpull
      obtain ⟨o, d, H, nx, ho, hstep, hrest⟩ := hpull
      have hclosed' : Closed ops (listed.setIfInBounds i true) := by
        intro k ok hk' hl e he hb
        rw [getD_set] at hl
        simp only [Bool.or_eq_true, beq_iff_eq] at hl
        rcases hl with hl | rfl
        · exact getD_set' _ _ _ (hclosed k ok hk' hl e he hb)
        · exact getD_set' _ _ _ (h3 ok hk' e he hb)
      have hlen' : (rem ops (listed.setIfInBounds i true)).length ≤ fuel := by
        rw [hrem'] ; rw [hrem] at hlen; simp only [List.length_append, List.length_cons] at hlen ⊢; omega
      have hdo := hdst i o ho
      unfold wpOp
      rw [ho]
      simp only
      have hstep' := hstep
      unfold stepE at hstep'
      rcases hstep' with ⟨hg, _⟩ | ⟨hg, rfl, rfl, rfl⟩
      · rw [if_pos (guard_sound hf hg)]
        refine .inl (opW_sound hf hdo (opW_of_step hg hstep) fun st' s' a' w' hst hf' hs' => ?_)
        subst hst
        exact ih _ _ s' a' w' hlen' (by simpa using hsz) hclosed' (by rw [hrem']; exact hrest) hf' fun st2 s2 a2 w2 hK2 hf2 hs2 => hk st2 s2 a2 w2 hK2 hf2 (hs'.trans hs2)
      · rw [if_neg (by rw [guard_sound hf hg]; simp)]
        exact ih _ _ s _ w hlen' (by simpa using hsz) hclosed' (by rw [hrem']; exact hrest) (hf.put0 hdo rel_undef) hk

end Go.Proofs.Ytjibdljdkgedcaa.Abs
