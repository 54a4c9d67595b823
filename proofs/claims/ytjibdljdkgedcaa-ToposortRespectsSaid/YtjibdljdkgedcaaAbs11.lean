/-
  Regions that draw their order: one walk in the text's order serves every order. No condition.
-/
import Derived.Test.YtjibdljdkgedcaaAbs10
set_option linter.unusedSimpArgs false
set_option linter.unusedVariables false
namespace Go.Proofs.Ytjibdljdkgedcaa.Abs
open Go.RowKit
variable {P : Program}

/-- 0: looks at no object and changes none; 1: changes none; 2: else. -/
def cls (own : List Nat) (o : Oper) : Nat :=
  match o.op with
  | .move _ | .pick .. | .build .. | .binOp .. | .unOp .. | .convert .. | .makeFunc .. | .slice .. | .fieldAddr .. | .field .. | .index .. | .extract .. | .nilCheck _ => 0
  | .assign _ => if isOwn own o.dst = true then 2 else 0
  | .buildSlice .. => if isOwn own o.dst = true then 2 else 0
  | .load .. | .lookup .. => 1
  | .indexAddr .. => if isMark 3000000 own o.dst = true then 0 else 1
  | .call { callee := .value _, .. } => if isMark 5000000 own o.dst = true then 0 else if isMark 4000000 own o.dst = true then 2 else 1
  | .call { callee := .builtin .len, .. } => if isMark 3000000 own o.dst = true then 0 else 1
  | .call { callee := .builtin .append, .. } => if isMark 1000000 own o.dst = true then 1 else 2
  | .call { callee := .builtin .max, .. } => 0
  | .call { callee := .builtin .min, .. } => 0
  | _ => 2

def St.withH (st : St) (H : HM) (nx : Nat) : St := { st with H := H, nx := nx }
theorem ev_withH (st : St) (H : HM) (nx : Nat) : (st.withH H nx).ev = st.ev := by funext x; cases x <;> rfl

theorem keep_withH (st : St) (H : HM) (nx : Nat) (d : Option D) : (st.withH H nx).keep d = d.map fun d => (d, H, nx) := rfl
theorem keep_some {st : St} {d0 : Option D} {d : D} {H : HM} {nx : Nat} (h : st.keep d0 = some (d, H, nx)) : d0 = some d ∧ H = st.H ∧ nx = st.nx := by
  simp only [St.keep, Option.map_eq_some_iff, Prod.mk.injEq] at h
  obtain ⟨d1, h1, rfl, rfl, rfl⟩ := h
  exact ⟨h1, rfl, rfl⟩

theorem opR_cls0 {own : List Nat} {o : Oper} {st : St} {d : D} {H : HM} {nx : Nat} (hc : cls own o = 0) (h : opR P own o st = some (d, H, nx)) :
    H = st.H ∧ nx = st.nx ∧ ∀ H2 nx2, opR P own o (st.withH H2 nx2) = some (d, H2, nx2) := by
  unfold cls at hc
  unfold opR at h ⊢
  simp only [ev_withH]
  split at hc <;> rename_i hop <;> first | (cases hc; done) | (split at hc <;> cases hc; done) | skip
  all_goals simp only [hop] at h ⊢
  · simp only [Option.some.injEq, Prod.mk.injEq] at h
    obtain ⟨rfl, rfl, rfl⟩ := h
    exact ⟨rfl, rfl, fun _ _ => rfl⟩
  · obtain ⟨h1, rfl, rfl⟩ := keep_some h
    exact ⟨rfl, rfl, fun _ _ => by rw [keep_withH, h1]; rfl⟩
  · obtain ⟨h1, rfl, rfl⟩ := keep_some h
    exact ⟨rfl, rfl, fun _ _ => by rw [keep_withH, h1]; rfl⟩
  · obtain ⟨h1, rfl, rfl⟩ := keep_some h
    exact ⟨rfl, rfl, fun _ _ => by rw [keep_withH, h1]; rfl⟩
  · obtain ⟨h1, rfl, rfl⟩ := keep_some h
    exact ⟨rfl, rfl, fun _ _ => by rw [keep_withH, h1]; rfl⟩
  · obtain ⟨h1, rfl, rfl⟩ := keep_some h
    exact ⟨rfl, rfl, fun _ _ => by rw [keep_withH, h1]; rfl⟩
  · split at h
    · split at h
      · rename_i h1
        simp only [Option.some.injEq, Prod.mk.injEq] at h
        obtain ⟨rfl, rfl, rfl⟩ := h
        exact ⟨rfl, rfl, fun _ _ => by simp only [h1, if_true]; rfl⟩
      · cases h
    · cases h
  · split at h
    · obtain ⟨h1, rfl, rfl⟩ := keep_some h
      exact ⟨rfl, rfl, fun _ _ => by rw [keep_withH, h1]; rfl⟩
    · obtain ⟨h1, rfl, rfl⟩ := keep_some h
      exact ⟨rfl, rfl, fun _ _ => by rw [keep_withH, h1]; rfl⟩
  · obtain ⟨h1, rfl, rfl⟩ := keep_some h
    exact ⟨rfl, rfl, fun _ _ => by rw [keep_withH, h1]; rfl⟩
  · split at h
    · rename_i h2 h3
      obtain ⟨h1, rfl, rfl⟩ := keep_some h
      exact ⟨rfl, rfl, fun _ _ => by rw [keep_withH, h1]; rfl⟩
    · cases h
  · obtain ⟨h1, rfl, rfl⟩ := keep_some h
    exact ⟨rfl, rfl, fun _ _ => by rw [keep_withH, h1]; rfl⟩
  · split at h
    · rename_i h2
      obtain ⟨h1, rfl, rfl⟩ := keep_some h
      exact ⟨rfl, rfl, fun _ _ => by rw [keep_withH, h1]; rfl⟩
    · cases h
  · split at h
    · rename_i h2
      simp only [Option.some.injEq, Prod.mk.injEq] at h
      obtain ⟨rfl, rfl, rfl⟩ := h
      exact ⟨rfl, rfl, fun _ _ => rfl⟩
    · rename_i h2
      simp only [Option.some.injEq, Prod.mk.injEq] at h
      obtain ⟨rfl, rfl, rfl⟩ := h
      exact ⟨rfl, rfl, fun _ _ => rfl⟩
    · cases h
  · split at hc
    · cases hc
    · rename_i hown
      split at h
      · rename_i hnil
        rw [if_neg hown] at h
        simp only [Option.some.injEq, Prod.mk.injEq] at h
        obtain ⟨rfl, rfl, rfl⟩ := h
        refine ⟨rfl, rfl, fun _ _ => ?_⟩
        simp only [if_neg hown]; rfl
      · simp only [Option.some.injEq, Prod.mk.injEq] at h
        obtain ⟨rfl, rfl, rfl⟩ := h
        exact ⟨rfl, rfl, fun _ _ => rfl⟩
  · split at hc
    · cases hc
    · rename_i hown
      split at h
      · split at h
        · rename_i hcond
          simp only [Option.bind_eq_some_iff] at h
          obtain ⟨cs, hcs, h⟩ := h
          split at h
          · rename_i hmk
            simp only [Option.some.injEq, Prod.mk.injEq] at h
            obtain ⟨rfl, rfl, rfl⟩ := h
            refine ⟨rfl, rfl, fun _ _ => ?_⟩
            rw [if_pos hcond, hcs]
            simp only [Option.bind_some, if_neg hown, if_pos hmk]; rfl
          · rename_i hmk
            simp only [Option.some.injEq, Prod.mk.injEq] at h
            obtain ⟨rfl, rfl, rfl⟩ := h
            refine ⟨rfl, rfl, fun _ _ => ?_⟩
            rw [if_pos hcond, hcs]
            simp only [Option.bind_some, if_neg hown, if_neg hmk]; rfl
        · cases h
      · cases h
  · split at hc
    · rename_i hm
      obtain ⟨h1, rfl, rfl⟩ := keep_some h
      refine ⟨rfl, rfl, fun H2 n2 => ?_⟩
      have e : hmG own o.dst (st.withH H2 n2).H = hmG own o.dst st.H := by unfold hmG; rw [if_pos hm, if_pos hm]
      rw [e, keep_withH, h1]; rfl
    · cases hc
  · cases h
  · split at hc
    · rename_i hm
      have e : ∀ H2 n2, hmG own o.dst (st.withH H2 n2).H = hmG own o.dst st.H := fun H2 n2 => by unfold hmG; rw [if_pos hm, if_pos hm]
      simp only [e]
      split at h
      all_goals first
        | (simp only [reduceCtorEq] at *; done)
        | (obtain ⟨h1, rfl, rfl⟩ := keep_some h; exact ⟨rfl, rfl, fun _ _ => by rw [keep_withH, h1]; rfl⟩)
    · cases hc
  · split at h
    all_goals first
      | (simp only [reduceCtorEq] at *; done)
      | (obtain ⟨h1, rfl, rfl⟩ := keep_some h; exact ⟨rfl, rfl, fun _ _ => by rw [keep_withH, h1]; rfl⟩)
  · split at h
    all_goals first
      | (simp only [reduceCtorEq] at *; done)
      | (obtain ⟨h1, rfl, rfl⟩ := keep_some h; exact ⟨rfl, rfl, fun _ _ => by rw [keep_withH, h1]; rfl⟩)

theorem opR_cls1 {own : List Nat} {o : Oper} {st : St} {d : D} {H : HM} {nx : Nat} (hc : cls own o ≤ 1) (h : opR P own o st = some (d, H, nx)) : H = st.H ∧ nx = st.nx := by
  by_cases h0 : cls own o = 0
  · exact ⟨(opR_cls0 h0 h).1, (opR_cls0 h0 h).2.1⟩
  · have h1 : cls own o = 1 := by omega
    unfold cls at h1
    unfold opR at h
    split at h1 <;> rename_i hop <;> first | (cases h1; done) | skip
    all_goals simp only [hop] at h
    · split at h1 <;> cases h1
    · split at h1 <;> cases h1
    · obtain ⟨_, rfl, rfl⟩ := keep_some h; exact ⟨rfl, rfl⟩
    · obtain ⟨_, rfl, rfl⟩ := keep_some h; exact ⟨rfl, rfl⟩
    · obtain ⟨_, rfl, rfl⟩ := keep_some h; exact ⟨rfl, rfl⟩
    · cases h
    · split at h
      all_goals first
        | (simp only [reduceCtorEq] at *; done)
        | (obtain ⟨_, rfl, rfl⟩ := keep_some h; exact ⟨rfl, rfl⟩)
    · split at h1
      · rename_i hmk
        split at h
        all_goals first
          | (simp only [reduceCtorEq] at *; done)
          | (split at h
             · first | rw [if_pos hmk] at h | skip
               obtain ⟨_, rfl, rfl⟩ := keep_some h
               exact ⟨rfl, rfl⟩
             · cases h)
      · cases h1

theorem map_congr' {α β : Type} {f g : α → β} : ∀ (l : List α), (∀ x ∈ l, f x = g x) → l.map f = l.map g := fun _ h => List.map_congr_left h

theorem opR_congr {own : List Nat} {o : Oper} {st st' : St} (hev : ∀ x ∈ o.op.operands.toList, st.ev x = st'.ev x) (hH : st.H = st'.H) (hnx : st.nx = st'.nx) : opR P own o st = opR P own o st' := by
  unfold opR
  have hk : ∀ d, st.keep d = st'.keep d := fun d => by simp only [St.keep, hH, hnx]
  cases hop : o.op <;> simp only [hop, Op.operands] at hev ⊢
  case move x => rw [hev x (by simp), hH, hnx]
  case assign x => rw [hev x (by simp), hH, hnx]
  case pick c a b => rw [hev c (by simp), hev a (by simp), hev b (by simp), hk]
  case alloc e => rw [hH, hnx]
  case box e x => rw [hev x (by simp), hH, hnx]
  case build t parts =>
    have : parts.toList.map (fun x => (x.1, st.ev x.2)) = parts.toList.map (fun x => (x.1, st'.ev x.2)) :=
      map_congr' _ fun x hx => by rw [hev x.2 (List.mem_map.2 ⟨x, hx, rfl⟩)]
    exact (congrArg (fun l => st.keep (buildD P t l)) this).trans (hk _)
  case buildSlice t len parts =>
    have : parts.toList.map (fun x => st.ev x.2) = parts.toList.map (fun x => st'.ev x.2) :=
      map_congr' _ fun x hx => hev x.2 (List.mem_map.2 ⟨x, hx, rfl⟩)
    simp only [this, hH, hnx]
  case load t p => rw [hev p (by simp), hH, hnx, hk]
  case store t p v => rw [hev p (by simp), hev v (by simp), hH, hnx]
  case binOp op t x y u => rw [hev x (by simp), hev y (by simp), hk]
  case unOp op t x => rw [hev x (by simp), hk]
  case convert s d x => rw [hev x (by simp), hk]
  case makeFunc fn first cap =>
    have : cap.toList.map st.ev = cap.toList.map st'.ev := map_congr' _ fun x hx => hev x (by simp; exact .inr (by simpa using hx))
    simp only [this, hH, hnx]
  case makeMap t r =>
    cases r with
    | none => simp only [hH, hnx]
    | some r => rfl
  case range t x => rw [hev x (by simp), hH, hnx]
  case next x b => rw [hev x (by simp), hH, hnx]
  case lookup t x k ok => rw [hev x (by simp), hev k (by simp), hH, hk]
  case mapUpdate t m k x => rw [hev m (by simp), hev k (by simp), hev x (by simp), hH, hnx]
  case insert t m k x => rw [hev m (by simp), hev k (by simp), hev x (by simp), hH, hnx]
  case makeSlice t l c => rw [hev l (by simp), hev c (by simp), hH, hnx]
  case slice t x lo hi mx =>
    have h1 : lo.map st.ev = lo.map st'.ev := by
      cases lo with
      | none => rfl
      | some y => simp only [Option.map_some]; rw [hev y (by simp)]
    have h2 : hi.map st.ev = hi.map st'.ev := by
      cases hi with
      | none => rfl
      | some y => simp only [Option.map_some]; rw [hev y (by simp)]
    cases mx with
    | none => rw [hev x (by simp), h1, h2]; simp only [hk]
    | some m =>
      show st.keep (slice3D P t (st.ev x) (Option.map st.ev lo) (Option.map st.ev hi) (st.ev m)) = st'.keep (slice3D P t (st'.ev x) (Option.map st'.ev lo) (Option.map st'.ev hi) (st'.ev m))
      rw [hev x (by simp), h1, h2, hev m (by simp)]; simp only [hk]
  case fieldAddr s x f => rw [hev x (by simp), hk]
  case field t x f => rw [hev x (by simp)]; simp only [hk]
  case indexAddr t x i => rw [hev x (by simp), hev i (by simp), hH, hk]
  case index t x i => rw [hev x (by simp), hev i (by simp), hk]
  case extract x i => rw [hev x (by simp)]; simp only [hk]
  case nilCheck x => rw [hev x (by simp), hH, hnx]
  case call c =>
    have hargs : ∀ x ∈ c.args.toList, st.ev x = st'.ev x := fun x hx => hev x (by simp [Call.operands]; exact .inr (by simpa using hx))
    split
    · rename_i b hcal
      split
      · rename_i x t ha _
        rw [hargs x (by rw [ha]; simp), hH, hk]
      · rename_i x y ha
        rw [hargs x (by rw [ha]; simp), hargs y (by rw [ha]; simp), hk]
      · rename_i x y ha
        rw [hargs x (by rw [ha]; simp), hargs y (by rw [ha]; simp), hk]
      · rename_i x y t u ha _
        rw [hargs x (by rw [ha]; simp), hargs y (by rw [ha]; simp), hH, hnx, hk]
      · rfl
    · rfl

end Go.Proofs.Ytjibdljdkgedcaa.Abs
