/-
  The rules by which a walk over abstract states is stepped. No condition.
-/
import Derived.Test.YtjibdljdkgedcaaAbs14
set_option linter.unusedSimpArgs false
set_option linter.unusedVariables false
namespace Go.Proofs.Ytjibdljdkgedcaa.Abs
open Go.RowKit
variable {P : Program} {own : List Nat} {Q : Exit → St → Prop} {st : St}

theorem awp_seq {a b : Code} (h : ∀ K : St → Prop, (∀ st, awp P own b Q st → K st) → awp P own a (seqK K Q) st) : awp P own (.seq a b) Q st := h _ fun st h => ⟨st, SealTo.refl st, h⟩
theorem awp_reg {id : Nat} {l : List Oper} (h : awpL P own (l.map (·.dst)) l (Q .normal) st) : awp P own (.region id l.toArray false) Q st := ⟨fun h => (by cases h), fun _ => h⟩
theorem awp_draw {id : Nat} {l : List Oper} (h0 : drawOK own l.toArray = true) (h : awpD P own (l.map (·.dst)) l (Q .normal) st) : awp P own (.region id l.toArray true) Q st := ⟨fun _ => ⟨h0, h⟩, fun h => (by cases h)⟩
/-- A region, then the rest. -/
theorem awp_seq_reg {id : Nat} {l : List Oper} {b : Code} (h : ∀ K : St → Prop, (∀ st, awp P own b Q st → K st) → awpL P own (l.map (·.dst)) l K st) : awp P own (.seq (.region id l.toArray false) b) Q st :=
  awp_seq fun K hK => awp_reg (h K hK)
theorem awp_seq_draw {id : Nat} {l : List Oper} {b : Code} (h0 : drawOK own l.toArray = true) (h : ∀ K : St → Prop, (∀ st, awp P own b Q st → K st) → awpD P own (l.map (·.dst)) l K st) : awp P own (.seq (.region id l.toArray true) b) Q st :=
  awp_seq fun K hK => awp_draw h0 (h K hK)
theorem seqK_mono {K K' : St → Prop} {Q Q' : Exit → St → Prop} (hk : ∀ st, K st → K' st) (h : ∀ e st, Q e st → Q' e st) : ∀ e st, seqK K Q e st → seqK K' Q' e st := by
  intro e st hq
  cases e with
  | normal => exact hk st hq
  | _ => exact h _ st hq
theorem awpL_mono {ops : List (Option Nat)} {K K' : St → Prop} (h : ∀ st, K st → K' st) : ∀ (l : List Oper) (st : St), awpL P own ops l K st → awpL P own ops l K' st
  | [], st, hq => h st hq
  | o :: l, st, hq => by
    simp only [awpL] at hq ⊢
    split
    · rename_i hg
      rw [hg] at hq
      simp only at hq
      unfold opW at hq ⊢
      split
      · rename_i hop
        simp only [hop] at hq
        split
        · rename_i hf
          rw [hf] at hq
          exact AC.mono hq fun r H nx hk => awpL_mono h l _ hk
        · rename_i hf
          split at hq
          · rename_i hf2; exact (hf _ _ hf2).elim
          · exact hq
      · rename_i hop
        split at hq
        · rename_i hop2; exact (hop _ _ _ hop2).elim
        · split at hq
          · exact awpL_mono h l _ hq
          · exact hq
    · rename_i hg
      rw [hg] at hq
      exact awpL_mono h l _ hq
    · rename_i hg
      rw [hg] at hq
      exact hq
theorem awpD_mono {ops : List (Option Nat)} {K K' : St → Prop} (h : ∀ st, K st → K' st) : ∀ (l : List Oper) (st : St), awpD P own ops l K st → awpD P own ops l K' st
  | [], st, hq => h st hq
  | o :: l, st, hq => by
    simp only [awpD] at hq ⊢
    split
    · rename_i hg
      rw [hg] at hq
      simp only at hq
      unfold opD at hq ⊢
      split
      · rename_i hop
        simp only [hop] at hq
        split
        · rename_i hf
          rw [hf] at hq
          rcases hq with ⟨h0, r, h1, h2⟩ | ⟨h0, r, h1, h2⟩ | ⟨h0, hm, d, H, nx, h1, h3, h2⟩
          · exact .inl ⟨h0, r, h1, awpD_mono h l _ h2⟩
          · exact .inr (.inl ⟨h0, r, h1, awpD_mono h l _ h2⟩)
          · exact .inr (.inr ⟨h0, hm, d, H, nx, h1, h3, awpD_mono h l _ h2⟩)
        · rename_i hf
          split at hq
          · rename_i hf2; exact (hf _ _ hf2).elim
          · exact hq
      · rename_i hop
        split at hq
        · rename_i hop2; exact (hop _ _ _ hop2).elim
        · split at hq
          · split at hq
            · rename_i hok
              rw [if_pos hok]
              exact awpD_mono h l _ hq
            · cases hq
          · exact hq
    · rename_i hg
      rw [hg] at hq
      exact awpD_mono h l _ hq
    · rename_i hg
      rw [hg] at hq
      exact hq
theorem awp_mono : ∀ (c : Code) (Q1 Q2 : Exit → St → Prop) (st : St), (∀ e st, Q1 e st → Q2 e st) → awp P own c Q1 st → awp P own c Q2 st
  | .skip, _, _, st, hq, h => hq _ st h
  | .region _ _ _, _, _, st, hq, h => ⟨fun hd => ⟨(h.1 hd).1, awpD_mono (hq _) _ st (h.1 hd).2⟩, fun hd => awpL_mono (hq _) _ st (h.2 hd)⟩
  | .seq a b, Q1, Q2, st, hq, h => awp_mono a _ _ st (seqK_mono (fun _ ⟨st', hs, h⟩ => ⟨st', hs, awp_mono b Q1 Q2 st' hq h⟩) hq) h
  | .cond _ x y, Q1, Q2, st, hq, h => by
    obtain ⟨t, h0, h1, h2⟩ := h
    exact ⟨t, h0, fun e => awp_mono x Q1 Q2 st hq (h1 e), fun e => awp_mono y Q1 Q2 st hq (h2 e)⟩
  | .block id c, Q1, Q2, st, hq, h => by
    refine awp_mono c _ _ st (fun e st hb => ?_) h
    cases e with
    | exit id' =>
      simp only [blkK] at hb ⊢
      split
      · rename_i he; rw [if_pos he] at hb; exact hq _ _ hb
      · rename_i he; rw [if_neg he] at hb; exact hq _ _ hb
    | _ => exact hq _ _ hb
  | .loop c, Q1, Q2, st, hq, h => by
    obtain ⟨I, h0, h1⟩ := h
    refine ⟨I, h0, fun n st' hI => awp_mono c _ _ st' (fun e st hb => ?_) (h1 n st' hI)⟩
    cases e with
    | normal => exact hb
    | _ => exact hq _ _ hb
  | .exit _, _, _, st, hq, h => hq _ st h
  | .ret, _, _, st, hq, h => hq _ st h
  | .rangeFunc .., _, _, _, _, h => h.elim
  | .scope _, _, _, _, _, h => h.elim
  | .label _, _, _, _, _, h => h.elim
  | .goto _, _, _, _, _, h => h.elim
  | .refuse _, _, _, _, _, h => h.elim
theorem awp_assoc {a b c : Code} (h : awp P own (.seq a (.seq b c)) Q st) : awp P own (.seq (.seq a b) c) Q st :=
  awp_mono a _ _ st (fun e st h => by cases e <;> exact h) h
theorem awp_cond {c : Operand} {x y : Code} (t : Bool) (ht : st.ev c = .bool t) (h1 : t = true → awp P own x Q st) (h2 : t = false → awp P own y Q st) : awp P own (.cond c x y) Q st := ⟨t, ht, h1, h2⟩
theorem awp_block {id : Nat} {c : Code} (h : awp P own c (blkK id Q) st) : awp P own (.block id c) Q st := h
theorem awp_ret (h : Q .ret st) : awp P own .ret Q st := h
theorem awp_skip (h : Q .normal st) : awp P own .skip Q st := h
theorem awp_exit {id : Nat} (h : Q (.exit id) st) : awp P own (.exit id) Q st := h
end Go.Proofs.Ytjibdljdkgedcaa.Abs
namespace Go.Proofs.Ytjibdljdkgedcaa.Abs
theorem buildD_eq {P : Program} {t : TypeId} {parts : List (Nat × D)} : buildD P t parts = match zeroT P t with
    | some zs => if fieldsOK P t = true then (fillD (fun i => (fieldT P t i).map fun (o, ft) => (o, sizeT P ft)) zs parts).map .agg else
        match arrT P t with
        | some (_, e) => if sizeT P e ≠ 0 then (fillD (fun i => some (i * sizeT P e, sizeT P e)) zs parts).map .agg else none
        | none => none
    | none => none := by
  unfold buildD
  cases zeroT P t with
  | none => rfl
  | some zs =>
    unfold fieldsOK arrT
    cases hu : P.underlying t with
    | none => rfl
    | some d => cases d <;> simp
attribute [go_sem] buildD_eq
attribute [go_sem] ofVal ofCell cellsD takeD fitsD loadD storeD splice fieldAddrD indexAddrD indexD boundD sliceD slice3D fillD cellsAll cmpInt binD isNilD isNilP unD lenD maxD minD pickD sourceD appendD
attribute [go_sem] List.getElem?_cons_zero List.getElem?_cons_succ Option.getD_some Option.map_some Option.map_none Option.bind_some Option.bind_none if_true if_false List.length_map List.map_cons List.map_nil List.any_cons List.any_nil Bool.or_false Bool.false_eq_true and_self true_and and_true
end Go.Proofs.Ytjibdljdkgedcaa.Abs
