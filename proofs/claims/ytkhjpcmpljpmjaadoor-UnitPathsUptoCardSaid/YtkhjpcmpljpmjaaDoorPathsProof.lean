/-
  The given second card of UnitPaths (what it reads is of bulk at most 1048576): for every such input the law returns true and leaves the input as it was. The package variables that the row lists start as the program's text lays them (the card ties them).
-/
import Derived.Test.YtkhjpcmpljpmjaaDoorBulk
import Derived.Test.YtkhjpcmpljpmjaaDoorPathsW
import Derived.Test.YtkhjpcmpljpmjaaDoorCards
import Derived.Test.YtkhjpcmpljpmjaaDoorTie
import Derived.Deep.DeepHandedRow
import Derived.Deep.DeepWitnessRowRef
set_option maxRecDepth 100000
set_option linter.unusedSimpArgs false
set_option linter.unusedVariables false
namespace Go.Proofs.YtkhjpcmpljpmjaaDoor
open Go.ChangeShapes Go.WideShapes Go.ChangeAt Go.RowKit Abs Facts Tr
set_option maxRecDepth 100000
theorem rd_bulk {H : Type} {enc : TypeId × Value → H} {W : World} {base : Nat} {r : Reach} {b0 : Nat} {spare : Nat → Bool} {held : Bool} {v : Value} {d : DataW H} {p : List MemPlace} (hv : Value.okWide Tryd.prog W r b0 27 v) (h : DataW.Trod enc Tryd.prog W base spare held 27 v d p) :
    ∃ t : T, (fitB t = true ∧ cntT t ≤ 1 + Rows.uptoBulk d) ∧ rel (readS W) (encU t) v := by
  obtain ⟨cs, rfl, _⟩ := okWide_struct Tryd.underlying27 hv
  obtain ⟨m, ds, ht, hr, hb⟩ := agg_bulk Glue.closedS (by decide) h
  obtain ⟨q, rfl, hq⟩ := Glue.typed_unit _ ht
  have := cnt_wL q
  exact ⟨q, ⟨hq, by omega⟩, hr⟩
def zeroArgs : Array Value := #[.agg #[.int .i64 0, .int .i64 0, .int .i64 0, .int .i64 0, .string ByteArray.empty, .slice none 0 0, .slice none 0 0, .slice none 0 0], .int .i64 0]
theorem unitPathsUpto_reads (os : Os) {H : Type} (enc : TypeId × Value → H) : ∃ places, DataW.whole enc Tryd.prog ((World.doorLaid Tryd.prog 400 os).forCall (fun _ _ => 0) ⟨#[], zeroArgs, []⟩).memory Tryd.f8.params.toList Rows.unitPathsSpec.vars false zeroArgs.toList 8 =
    some ([.agg [.agg [.lit (.int .i64 0), .lit (.int .i64 0), .lit (.int .i64 0)], .lit (.int .i64 0), .lit (.string []), .nil, .nil, .nil], .lit (.int .i64 0)], [], places) := ⟨[], by kernel_rfl⟩
theorem unitPathsUpto_lifted (os : Os) (started : os.Started) (H : Type) (enc : TypeId × Value → H) (F : Stop.Interp) :
    ReturnsInHanded {} Tryd.checked os 8 .any ((Rows.OpenSpec.upto Rows.unitPathsSpec).preRow enc Tryd.prog Tryd.f8 Rows.unitPathsUptoRow.domain false Rows.unitPathsUptoRow.laid)
      (((Rows.OpenSpec.upto Rows.unitPathsSpec).at F).post enc Tryd.prog Tryd.f8 false true false false) := by
  obtain ⟨places, hx⟩ := unitPathsUpto_reads os enc
  refine returnsInHanded_of_row (C := Tryd.checked) (s := Rows.OpenSpec.upto Rows.unitPathsSpec) Glue.ownK started (by kernel_rfl) Tryd.func8
    (witness_row_atRef (enc := enc) (C := Tryd.checked) false (World.doorLaid Tryd.prog 400 os) zeroArgs rfl (by kernel_rfl) (by kernel_rfl) (by kernel_rfl)
      (OpenSpec.preRow_of_cond 8 hx (by kernel_rfl) (fun k hk => by cases hk; kernel_rfl) (by kernel_rfl) (Glue.door_met os _))) ?_
  intro W base args ds gs before hval0 hW _ hcond _ hL _ _
  have hbulk : Rows.uptoSmall H (ds ++ gs) = true := hcond _ rfl
  have hval : ∀ (j : Nat) t v, Tryd.f8.params[j]? = some t → args[j]? = some v → Value.okWide Tryd.prog W .any base t v := hval0
  have hW' := hW
  obtain ⟨p, q, hA0, hV, rfl, _, _⟩ := hW
  have hA : DataW.TrodAll enc Tryd.prog W 0 (fun _ => true) true Tryd.f8.params.toList args.toList ds p := hA0
  rw [Tryd.params8] at hA hval
  obtain ⟨v0, v1, d0, d1, p0, p1, rfl, rfl, rfl, h0, h1⟩ := trodAll_two hA
  obtain ⟨rfl, rfl⟩ := trodVars_none hV
  clear hA0 hval0
  simp only [List.append_nil] at hW'
  have hb0 : Rows.uptoBulk d0 ≤ 1048576 := by
    simp only [Rows.uptoSmall, decide_eq_true_eq, List.append_nil, Rows.uptoBulkAll] at hbulk
    omega
  have hlt : ∀ x ∈ p0 ++ p1, x.block < W.heap.size := fun x hx => by simpa using hW'.lt x hx
  obtain ⟨u, ⟨hu, hc⟩, r0⟩ := rd_bulk (hval 0 27 v0 rfl rfl) h0
  obtain ⟨n, _hn, r1⟩ := Glue.rd_int (hval 1 3 v1 rfl rfl) h1
  refine (law_calls (pc_LawPaths u hu (by omega) n) (v := .bool true) (fun s u h => by simpa only [rel] using h) (Glue.globOK_laid hL) (relAll_cons r0 (relAll_cons r1 relAll_nil))).mono fun e W' ⟨he, hb⟩ => ?_
  subst he
  have g0 : DataW.Trod enc Tryd.prog W' 0 (fun b => decide (b < W.heap.size)) true 27 v0 d0 p0 := Below.trod Glue.laidOutK (by kernel_rfl) (of_decide_eq_true (by kernel_rfl)) h0 hb (fun x hx => hlt x (List.mem_append_left _ hx))
  have g1 : DataW.Trod enc Tryd.prog W' 0 (fun b => decide (b < W.heap.size)) true 3 v1 d1 p1 := Below.trod Glue.laidOutK (by kernel_rfl) (of_decide_eq_true (by kernel_rfl)) h1 hb (fun x hx => hlt x (List.mem_append_right _ hx))
  exact ⟨_, rfl, ⟨_, _, _, [], _, [], hW', trodAll_mk1 (shut_bool Tryd.underlying4 _), trodAll_mk2 g0 g1, rfl, hb.frame _, fun h => by cases h⟩⟩
theorem unitPathsUpto_holds : Rows.UnitPathsUptoSaid :=
  OpenClaim.holds_of_cond 8 Tryd.f8 rfl rfl rfl rfl rfl rfl rfl ⟨rfl, rfl, rfl, rfl, rfl⟩ rfl rfl rfl rfl rfl (by kernel_rfl) Tryd.func8 (by kernel_rfl)
    (of_decide_eq_true (by kernel_rfl)) (by unfold Func.isWrapper; rw [if_neg (by decide +kernel)]; exact ⟨rfl, rfl⟩)
    (fun os started H enc _ F => by rw [OpenClaim.pre_eq_preRow]; exact unitPathsUpto_lifted os started H enc F)
/-- The card. -/
theorem unitPathsUpto_card : Rows.UnitPathsUptoCardSaid :=
  Claim7.holds_tied_plain_at .later [] _ _ _ _
    unitPathsUpto_holds (fun _ h => by cases h) (by kernel_rfl) (fun _ h => by cases h) unitPathsUpto_row_tie rfl ⟨rfl, rfl⟩ (by kernel_rfl) rfl
    (fun f fn hf hfn => by
      obtain rfl : f = 8 := Option.some.inj ((show Tryd.prog.funcNamed "pandect/pandectlaw06.UnitPaths" = some 8 by kernel_rfl).symm.trans hf) |>.symm
      obtain rfl : fn = Tryd.f8 := (Option.some.inj (Tryd.func8.symm.trans hfn)).symm
      exact ⟨by kernel_rfl, fun j t ht => by
        rw [Tryd.params8] at ht
        have hm : t ∈ [27, 3] := by have h' := Array.mem_of_getElem? ht; first | exact (by simpa using h') | (simp at h' ⊢; (repeat' (rcases h' with h' | h')) <;> simp)
        have hall : ([27, 3].all fun u => !Tryd.prog.wantsStandIn u) = true := by kernel_rfl
        exact (show Tryd.prog.wantsStandIn t = false by simpa using List.all_eq_true.1 hall t hm)⟩)
    (by kernel_rfl)
end Go.Proofs.YtkhjpcmpljpmjaaDoor
