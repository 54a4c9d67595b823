/-
  The abstract operations are sound, fourth part: binary operators, appends, make. No condition.
-/
import Derived.Test.YtjibdljdkgedcaaAbs6
import Derived.Laws.MakeOwn
import Derived.Laws.Append
set_option linter.unusedSimpArgs false
set_option linter.unusedVariables false
namespace Go.Proofs.Ytjibdljdkgedcaa.Abs
open Go.RowKit
variable {P : Program}

theorem bytes_eq (a b : ByteArray) : (a.toList == b.toList) = decide (a = b) := by
  rw [ByteArray.toList_eq, ByteArray.toList_eq]
  obtain ⟨⟨x⟩⟩ := a
  obtain ⟨⟨y⟩⟩ := b
  by_cases h : x = y
  · subst h; simp
  · have h1 : (x == y) = false := by simpa using h
    show (x == y) = _
    rw [h1]
    symm
    simp only [decide_eq_false_iff_not]
    intro e
    apply h
    injection e with e1
    injection e1

theorem eqD_sound (s : RS) : ∀ (n : Nat) (d : Nat) (t : TypeId) (x y : D) (vx vy : Value) (r : Bool), n ≤ d → eqD P n t x y = some r → rel s x vx → rel s y vy →
    ∀ w, (Op.equalIn d t vx vy).run P w = .ok r w := by
  intro n
  induction n with
  | zero => intro d t x y vx vy r _ h; simp [eqD] at h
  | succ n ih =>
    intro d t x y vx vy r hd h hx hy w
    obtain ⟨d, rfl⟩ : ∃ d', d = d' + 1 := ⟨d - 1, by omega⟩
    simp only [eqD] at h
    split at h
    · rename_i hu
      cases h; simp only [rel] at hx hy; subst hx; subst hy
      simp [Op.equalIn, run_underlying hu]
    · rename_i hu
      split at h
      · rename_i hk
        cases h; simp only [rel] at hx hy; subst hx; subst hy; subst hk
        simp [Op.equalIn, run_underlying hu]
      · cases h
    · rename_i hu
      cases h; simp only [rel] at hx hy; subst hx; subst hy
      simp [Op.equalIn, run_underlying hu, beq_toListBytes, bytes_eq]
    · rename_i fs xs ys hu
      split at h
      · rename_i hstood
        simp only [rel] at hx hy
        obtain ⟨vxs, rfl, hxr, hxo⟩ := hx
        obtain ⟨vys, rfl, hyr, hyo⟩ := hy
        have hfo : P.fieldsOf t = fs := by simp [Program.fieldsOf, hu]
        rw [run_equalIn_struct w d t _ _ (by rw [hfo]; exact hu) hstood, hfo]
        generalize fs.toList = l at h
        clear hu hfo
        induction l with
        | nil => simp only [eqFieldsD, Option.some.injEq] at h; subst h; simp [Op.eqFields]
        | cons f l ihl =>
          simp only [eqFieldsD] at h
          simp only [Op.eqFields]
          split at h
          · rename_i hne
            rw [if_pos hne]
            split at h
            · rename_i a b ha hb
              obtain ⟨ua, hua, _, _, hpa⟩ := takeD_val ha hxr hxo
              obtain ⟨ub, hub, _, _, hpb⟩ := takeD_val hb hyr hyo
              split at h
              · rename_i r' hr'
                have h1 := ih d f.type a b ua ub r' (by omega) hr' hua hub w
                simp only [Sem.run_bind, hpa, hpb, Result.andThen_ok, h1, Sem.run_ite]
                split at h
                · rename_i hrt
                  subst hrt
                  simp only [Bool.not_true, Bool.false_eq_true, if_false]
                  exact ihl h
                · rename_i hrf
                  cases h
                  have : r' = false := by simpa using hrf
                  subst this
                  simp
              · cases h
            · cases h
          · rename_i hne
            rw [if_neg hne]
            exact ihl h
      · cases h
    · cases h

theorem cmpInt_sound {op : BinOp} {a b : Int} {r : Bool} {w : World} (h : cmpInt op a b = some r) : (Op.intCmp op a b).run P w = .ok (.bool r) w := by
  unfold cmpInt at h
  split at h <;> first | (cases h; done) | skip
  all_goals cases h
  · simp only [Op.intCmp, Sem.run_pure]
    congr 2
  · simp only [Op.intCmp, Sem.run_pure]
    congr 2
    by_cases h : a = b <;> simp [h]
  · simp [Op.intCmp]
  · simp [Op.intCmp]
  · simp [Op.intCmp]
  · simp [Op.intCmp]

set_option maxHeartbeats 1000000 in
theorem binInt_sound {s : RS} {w : World} {op : BinOp} {t : TypeId} {x y : Operand} {k k' : IntKind} {a b : Int} {d : D} (hd : binD P op t (.int k a) (.int k' b) = some d) :
    ∃ u, (do eqGuard op t x y (.int k a) (.int k' b); binOp op t (.int k a) (.int k' b) : Sem Value).run P w = .ok u w ∧ rel s d u := by
  simp only [binD] at hd
  have hg : (eqGuard op t x y (.int k a) (.int k' b)).run P w = .ok () w := by
    unfold eqGuard; cases op <;> simp
  simp only [Sem.run_bind, hg, Result.andThen_ok]
  clear hg
  split at hd
  · split at hd <;> first | (cases hd; done) | skip
    rename_i hb
    cases hd
    exact ⟨_, by simp [binOp, Op.shift, Int.not_lt.2 hb]; rfl, by simp [rel]⟩
  · split at hd <;> first | (cases hd; done) | skip
    rename_i hb
    cases hd
    exact ⟨_, by simp [binOp, Op.shift, Int.not_lt.2 hb]; rfl, by simp [rel]⟩
  · split at hd <;> first | (cases hd; done) | skip
    rename_i hk; subst hk; cases hd
    exact ⟨_, by simp [binOp, Op.intArith]; rfl, by simp [rel]⟩
  · split at hd <;> first | (cases hd; done) | skip
    rename_i hk; subst hk; cases hd
    exact ⟨_, by simp [binOp, Op.intArith]; rfl, by simp [rel]⟩
  · split at hd <;> first | (cases hd; done) | skip
    rename_i hk; subst hk; cases hd
    exact ⟨_, by simp [binOp, Op.intArith]; rfl, by simp [rel]⟩
  · split at hd <;> first | (cases hd; done) | skip
    rename_i hk; obtain ⟨rfl, hb⟩ := hk; cases hd
    exact ⟨_, by simp [binOp, Op.intDiv, hb]; rfl, by simp [rel]⟩
  · split at hd <;> first | (cases hd; done) | skip
    rename_i hk; obtain ⟨rfl, hb⟩ := hk; cases hd
    exact ⟨_, by simp [binOp, Op.intDiv, hb]; rfl, by simp [rel]⟩
  · split at hd <;> first | (cases hd; done) | skip
    rename_i hk; subst hk
    simp only [bitsD, Option.map_some, Option.some.injEq] at hd; subst hd
    exact ⟨_, by simp [binOp, Op.intBits]; rfl, by simp [rel]⟩
  · split at hd <;> first | (cases hd; done) | skip
    rename_i hk; subst hk
    simp only [bitsD, Option.map_some, Option.some.injEq] at hd; subst hd
    exact ⟨_, by simp [binOp, Op.intBits]; rfl, by simp [rel]⟩
  · split at hd <;> first | (cases hd; done) | skip
    rename_i hk; subst hk
    simp only [bitsD, Option.map_some, Option.some.injEq] at hd; subst hd
    exact ⟨_, by simp [binOp, Op.intBits]; rfl, by simp [rel]⟩
  · split at hd <;> first | (cases hd; done) | skip
    rename_i hk; subst hk
    simp only [bitsD, Option.map_some, Option.some.injEq] at hd; subst hd
    exact ⟨_, by simp [binOp, Op.intBits]; rfl, by simp [rel]⟩
  · split at hd <;> first | (cases hd; done) | skip
    rename_i hk; subst hk
    simp only [Option.map_eq_some_iff] at hd
    obtain ⟨r, hr, rfl⟩ := hd
    have := cmpInt_sound (P := P) (w := w) hr
    refine ⟨.bool r, ?_, by simp [rel]⟩
    rw [← this]
    cases op <;> first | (simp [cmpInt] at hr; done) | simp [binOp]

theorem equal_succ (t : TypeId) (x y : Value) : Op.equal t x y = Op.equalIn (9999 + 1) t x y := rfl
theorem run_eql_bool {t : TypeId} (h : boolT P t = true) (a b : Bool) (w : World) : (binOp .eql t (.bool a) (.bool b)).run P w = .ok (.bool (a == b)) w := by
  show (do pure (Value.bool (← Op.equal t (.bool a) (.bool b))) : Sem Value).run P w = _
  rw [equal_succ]
  simp only [Sem.run_bind, run_equalIn_bool' w 9999 t a b (boolT_some h), Result.andThen_ok, Sem.run_pure]
theorem run_neq_bool {t : TypeId} (h : boolT P t = true) (a b : Bool) (w : World) : (binOp .neq t (.bool a) (.bool b)).run P w = .ok (.bool (a != b)) w := by
  show (do pure (Value.bool (!(← Op.equal t (.bool a) (.bool b)))) : Sem Value).run P w = _
  rw [equal_succ]
  simp only [Sem.run_bind, run_equalIn_bool' w 9999 t a b (boolT_some h), Result.andThen_ok, Sem.run_pure]
  rfl
theorem run_eql_of {t : TypeId} {x y : Value} {r : Bool} {w : World} (h : (Op.equal t x y).run P w = .ok r w) (hx : ∀ k n, x ≠ .int k n) (hx' : ∀ k n, x ≠ .float k n) (hx2 : ∀ k n m, x ≠ .complex k n m) (hx3 : ∀ z, x ≠ .string z) :
    (binOp .eql t x y).run P w = .ok (.bool r) w := by
  have : binOp .eql t x y = (do pure (Value.bool (← Op.equal t x y)) : Sem Value) := by
    unfold binOp
    cases x <;> first | rfl | (exfalso; first | exact hx _ _ rfl | exact hx' _ _ rfl | exact hx2 _ _ _ rfl | exact hx3 _ rfl)
  rw [this]
  simp only [Sem.run_bind, h, Result.andThen_ok, Sem.run_pure]
theorem run_neq_of {t : TypeId} {x y : Value} {r : Bool} {w : World} (h : (Op.equal t x y).run P w = .ok r w) (hx : ∀ k n, x ≠ .int k n) (hx' : ∀ k n, x ≠ .float k n) (hx2 : ∀ k n m, x ≠ .complex k n m) (hx3 : ∀ z, x ≠ .string z) :
    (binOp .neq t x y).run P w = .ok (.bool (!r)) w := by
  have : binOp .neq t x y = (do pure (Value.bool (!(← Op.equal t x y))) : Sem Value) := by
    unfold binOp
    cases x <;> first | rfl | (exfalso; first | exact hx _ _ rfl | exact hx' _ _ rfl | exact hx2 _ _ _ rfl | exact hx3 _ rfl)
  rw [this]
  simp only [Sem.run_bind, h, Result.andThen_ok, Sem.run_pure]
theorem run_guard_agg {op : BinOp} {t : TypeId} {x y : Operand} {a b : Array Value} {w : World} (h : P.eqGuardType P.depth t = false) : (eqGuard op t x y (.agg a) (.agg b)).run P w = .ok () w := by
  unfold eqGuard; cases op <;> simp [h]
theorem run_guard_slice {op : BinOp} {t : TypeId} {x y : Operand} {a : Option Addr} {n c : Nat} {v : Value} {w : World} : (eqGuard op t x y (.slice a n c) v).run P w = .ok () w := by
  unfold eqGuard; cases op <;> simp
theorem run_equalIn_nil (d : Nat) {t e : TypeId} (hu : P.underlying t = some (.slice e)) (a : Option Addr) (n c : Nat) (w : World) : (Op.equalIn (d + 1) t (.slice a n c) (.slice none 0 0)).run P w = .ok a.isNone w := by
  cases a <;> simp [Op.equalIn, run_underlying hu]
theorem run_equal_nil {t e : TypeId} (hu : P.underlying t = some (.slice e)) (a : Option Addr) (n c : Nat) (w : World) : (Op.equal t (.slice a n c) (.slice none 0 0)).run P w = .ok a.isNone w := by
  rw [equal_succ]
  exact run_equalIn_nil 9999 hu a n c w

theorem run_guard_ptr {op : BinOp} {t : TypeId} {x y : Operand} {a : Option Addr} {v : Value} {w : World} : (eqGuard op t x y (.pointer a) v).run P w = .ok () w := by
  unfold eqGuard; cases op <;> simp
theorem run_equalIn_ptr (d : Nat) {t e : TypeId} (hu : P.underlying t = some (.pointer e)) (a : Option Addr) (w : World) : (Op.equalIn (d + 1) t (.pointer a) (.pointer none)).run P w = .ok a.isNone w := by
  cases a <;> simp [Op.equalIn, run_underlying hu]
theorem run_equal_ptr {t e : TypeId} (hu : P.underlying t = some (.pointer e)) (a : Option Addr) (w : World) : (Op.equal t (.pointer a) (.pointer none)).run P w = .ok a.isNone w := by
  rw [equal_succ]
  exact run_equalIn_ptr 9999 hu a w
theorem ptrT_some {t : TypeId} (h : ptrT P t = true) : ∃ e, P.underlying t = some (.pointer e) := by
  unfold ptrT at h
  split at h
  · exact ⟨_, by assumption⟩
  · cases h
set_option maxHeartbeats 1000000 in
theorem binD_sound {s : RS} {w : World} {op : BinOp} {t : TypeId} {x y : Operand} {dx dy d : D} {vx vy : Value} (hd : binD P op t dx dy = some d) (hx : rel s dx vx) (hy : rel s dy vy) :
    ∃ u, (do eqGuard op t x y vx vy; binOp op t vx vy : Sem Value).run P w = .ok u w ∧ rel s d u := by
  unfold binD at hd
  split at hd
  · rename_i k a k' b
    simp only [rel] at hx hy; subst hx; subst hy
    exact binInt_sound (by simpa only [binD] using hd)
  · rename_i a b
    simp only [rel] at hx hy; subst hx; subst hy
    have hg : (eqGuard op t x y (.bool a) (.bool b)).run P w = .ok () w := by
      unfold eqGuard; cases op <;> simp
    simp only [Sem.run_bind, hg, Result.andThen_ok]
    split at hd
    · split at hd <;> first | (cases hd; done) | skip
      rename_i hb; cases hd
      exact ⟨.bool (a == b), run_eql_bool hb a b w, by simp [rel]⟩
    · split at hd <;> first | (cases hd; done) | skip
      rename_i hb; cases hd
      exact ⟨.bool (a != b), run_neq_bool hb a b w, by simp [rel]⟩
    · cases hd
  · rename_i a b
    simp only [rel] at hx hy; subst hx; subst hy
    have hg : (eqGuard op t x y (.string a) (.string b)).run P w = .ok () w := by
      unfold eqGuard; cases op <;> simp
    simp only [Sem.run_bind, hg, Result.andThen_ok]
    split at hd
    · cases hd
      exact ⟨.bool (decide (a = b)), by simp only [binOp, Op.stringOp, bytes_eq]; rfl, by simp [rel]⟩
    · cases hd
      exact ⟨.bool (decide (a ≠ b)), by simp only [binOp, Op.stringOp, bytes_eq]; simp, by simp [rel]⟩
    · cases hd
      exact ⟨_, by simp only [binOp, Op.stringOp]; rfl, by simp [rel]⟩
    · split at hd
      · rename_i hle
        cases hd
        have hg2 : ¬ (((a.size + b.size : Nat) : Int) > IntKind.i64.max) := by
          have : IntKind.i64.max = 9223372036854775807 := rfl
          omega
        exact ⟨.string (a ++ b), by simp only [binOp, Op.stringOp, if_neg hg2]; rfl, by simp [rel]⟩
      · cases hd
    · cases hd
  · rename_i a b
    have hx' := hx
    have hy' := hy
    simp only [rel] at hx hy
    obtain ⟨vs, rfl, hr, ho⟩ := hx
    obtain ⟨us, rfl, hr', ho'⟩ := hy
    split at hd
    · split at hd <;> first | (cases hd; done) | skip
      rename_i hge
      simp only [Option.map_eq_some_iff] at hd
      obtain ⟨r, hr, rfl⟩ := hd
      have := eqD_sound (P := P) s 8 Op.maxDepth t _ _ _ _ r (by decide) hr hx' hy' w
      exact ⟨.bool r, by simp only [Sem.run_bind, run_guard_agg hge, Result.andThen_ok]; exact run_eql_of this (by simp) (by simp) (by simp) (by simp), by simp [rel]⟩
    · split at hd <;> first | (cases hd; done) | skip
      rename_i hge
      simp only [Option.map_eq_some_iff] at hd
      obtain ⟨r, hr, rfl⟩ := hd
      have := eqD_sound (P := P) s 8 Op.maxDepth t _ _ _ _ r (by decide) hr hx' hy' w
      exact ⟨.bool (!r), by simp only [Sem.run_bind, run_guard_agg hge, Result.andThen_ok]; exact run_neq_of this (by simp) (by simp) (by simp) (by simp), by simp [rel]⟩
    · cases hd
  · have hy0 : vy = .slice none 0 0 := by simpa only [rel] using hy
    subst hy0
    have key : ∀ (b : Bool), isNilD dx = some b → (dx = .nil ∨ ∃ nn sz els, dx = .rsl nn sz els) → ∀ e, elemT P t = some e →
        ∃ a n c, vx = .slice a n c ∧ (Op.equal t vx (.slice none 0 0)).run P w = .ok b w := by
      intro b hb hs e he
      have hu := elemT_some he
      rcases hs with rfl | ⟨nn, sz, els, rfl⟩
      · simp only [rel] at hx; subst hx
        simp only [isNilD, Option.some.injEq] at hb; subst hb
        exact ⟨_, _, _, rfl, run_equal_nil hu _ _ _ w⟩
      · have hbf : b = false := by
          cases nn with
          | true => simp only [isNilD, Option.some.injEq] at hb; exact hb.symm
          | false => cases els <;> simp only [isNilD, Option.some.injEq, reduceCtorEq] at hb; exact hb.symm
        subst hbf
        simp only [rel] at hx
        rcases hx with ⟨rfl, rfl, rfl⟩ | ⟨a, cap, vs, rfl, _⟩
        · simp [isNilD] at hb
        · exact ⟨_, _, _, rfl, run_equal_nil hu _ _ _ w⟩
    split at hd
    · rename_i e he
      split at hd
      · rename_i heq
        simp only [Option.map_eq_some_iff] at hd
        obtain ⟨b, hb, rfl⟩ := hd
        obtain ⟨a, n, c, rfl, hrun⟩ := key b hb (.inl rfl) e he
        exact ⟨.bool b, by simp only [Sem.run_bind, run_guard_slice, Result.andThen_ok]; exact run_eql_of hrun (by simp) (by simp) (by simp) (by simp), by simp [rel]⟩
      · simp only [Option.map_eq_some_iff] at hd
        obtain ⟨b, hb, rfl⟩ := hd
        obtain ⟨a, n, c, rfl, hrun⟩ := key b hb (.inr ⟨_, _, _, rfl⟩) e he
        exact ⟨.bool b, by simp only [Sem.run_bind, run_guard_slice, Result.andThen_ok]; exact run_eql_of hrun (by simp) (by simp) (by simp) (by simp), by simp [rel]⟩
      · cases hd
    · rename_i e he
      split at hd
      · simp only [Option.map_eq_some_iff] at hd
        obtain ⟨b, hb, rfl⟩ := hd
        obtain ⟨a, n, c, rfl, hrun⟩ := key b hb (.inl rfl) e he
        exact ⟨.bool (!b), by simp only [Sem.run_bind, run_guard_slice, Result.andThen_ok]; exact run_neq_of hrun (by simp) (by simp) (by simp) (by simp), by simp [rel]⟩
      · simp only [Option.map_eq_some_iff] at hd
        obtain ⟨b, hb, rfl⟩ := hd
        obtain ⟨a, n, c, rfl, hrun⟩ := key b hb (.inr ⟨_, _, _, rfl⟩) e he
        exact ⟨.bool (!b), by simp only [Sem.run_bind, run_guard_slice, Result.andThen_ok]; exact run_neq_of hrun (by simp) (by simp) (by simp) (by simp), by simp [rel]⟩
      · cases hd
    · cases hd
  · have hy0 : vy = .pointer none := by simpa only [rel] using hy
    subst hy0
    have key : ∀ (b : Bool), isNilP dx = some b → ptrT P t = true → ∃ a, vx = .pointer a ∧ (Op.equal t vx (.pointer none)).run P w = .ok b w := by
      intro b hb ht
      obtain ⟨e, hu⟩ := ptrT_some ht
      unfold isNilP at hb
      split at hb
      · simp only [rel] at hx; subst hx; cases hb; exact ⟨_, rfl, run_equal_ptr hu none w⟩
      · simp only [rel] at hx; obtain ⟨a, u, rfl, _⟩ := hx; cases hb; exact ⟨_, rfl, run_equal_ptr hu _ w⟩
      · simp only [rel] at hx; obtain ⟨_, ⟨a, rfl⟩, _⟩ := hx; cases hb; exact ⟨_, rfl, run_equal_ptr hu _ w⟩
      · cases hb
    split at hd
    · split at hd
      · rename_i ht
        simp only [Option.map_eq_some_iff] at hd
        obtain ⟨b, hb, rfl⟩ := hd
        obtain ⟨a, rfl, hrun⟩ := key b hb ht
        exact ⟨.bool b, by simp only [Sem.run_bind, run_guard_ptr, Result.andThen_ok]; exact run_eql_of hrun (by simp) (by simp) (by simp) (by simp), by simp [rel]⟩
      · cases hd
    · split at hd
      · rename_i ht
        simp only [Option.map_eq_some_iff] at hd
        obtain ⟨b, hb, rfl⟩ := hd
        obtain ⟨a, rfl, hrun⟩ := key b hb ht
        exact ⟨.bool (!b), by simp only [Sem.run_bind, run_guard_ptr, Result.andThen_ok]; exact run_neq_of hrun (by simp) (by simp) (by simp) (by simp), by simp [rel]⟩
      · cases hd
    · cases hd
  · cases hd

end Go.Proofs.Ytjibdljdkgedcaa.Abs
