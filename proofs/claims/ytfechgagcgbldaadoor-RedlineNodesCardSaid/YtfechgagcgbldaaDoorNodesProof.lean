/-
 The given card of RedlineNodes: for every input the law returns true and leaves the input as it was. The package variables that the row lists start as the program's text lays them (the card ties them).
-/
import Derived.Test.YtfechgagcgbldaaDoorWF
import Derived.Test.YtfechgagcgbldaaDoorCards
import Derived.Test.YtfechgagcgbldaaDoorTie
set_option maxRecDepth 100000
set_option linter.unusedSimpArgs false
set_option linter.unusedVariables false
namespace Go.Proofs.YtfechgagcgbldaaDoor
open Go.ChangeShapes Go.WideShapes Go.ChangeAt Go.RowKit Abs
theorem redlineNodes_lifted (os : Os) (started : os.Started) (H : Type) (enc : TypeId × Value -> H) :
  ReturnsInHanded {} Tryd.checked os 3 .any (fun w args => (Rows.redlineNodesSpec.pre enc Tryd.prog Tryd.f3 [] false w args /\ laidMetH Tryd.prog Glue.laidList w) /\ sizedMet enc Tryd.prog Tryd.f3 (OpenSpec.ofChange Rows.redlineNodesSpec) false w args)
   (Rows.redlineNodesSpec.post enc Tryd.prog Tryd.f3 false true false false) := by
 refine returnsInHanded_of_change_and (C := Tryd.checked) (X := fun w _ => laidMetH Tryd.prog Glue.laidList w) (fun _ _ _ hh h => h.of_heap hh) Glue.ownK started (by kernel_rfl) Tryd.func3
  (ChangeSpec.witness_shaped (enc := enc) (C := Tryd.checked) (os := os) (X := fun w _ => laidMetH Tryd.prog Glue.laidList w) false (World.doorLaid Tryd.prog 400 os) #[.agg #[.int .i64 0, .int .i64 0, .int .i64 0, .int .i64 0, .string ByteArray.empty, .slice none 0 0, .slice none 0 0, .slice none 0 0], .agg #[.int .i64 0, .int .i64 0, .int .i64 0, .int .i64 0, .string ByteArray.empty, .slice none 0 0, .slice none 0 0, .slice none 0 0]] 8 rfl (World.shaped_of_RefB (by kernel_rfl) (by kernel_rfl)) (by kernel_rfl) (by kernel_rfl) (by kernel_rfl) (Glue.door_met os _)) ?_
 intro W base args ds gs before hval0 hW _ _ hL _
 have hval : ∀ (j : Nat) t v, Tryd.f3.params[j]? = some t -> args[j]? = some v -> Value.okWide Tryd.prog W .any base t v := hval0
 have hW' := hW
 obtain ⟨p, q, hA0, hV, rfl, _, _⟩ := hW
 have hA : DataW.TrodAll enc Tryd.prog W 0 (fun _ => true) true Tryd.f3.params.toList args.toList ds p := hA0
 rw [Tryd.params3] at hA hval
 obtain ⟨v0, v1, d0, d1, p0, p1, rfl, rfl, rfl, h0, h1⟩ := trodAll_two hA
 obtain ⟨rfl, rfl⟩ := trodVars_none hV
 clear hA0 hval0
 simp only [List.append_nil] at hW'
 have hlt : ∀ x ∈ p0 ++ p1, x.block < W.heap.size := fun x hx => by simpa using hW'.lt x hx
 obtain ⟨a, ha, r0⟩ := Glue.rd_unit (hval 0 27 v0 rfl rfl) h0
 obtain ⟨b, hb, r1⟩ := Glue.rd_unit (hval 1 27 v1 rfl rfl) h1
 refine (zti (znr a b ha hb) (v := .bool true) (fun s u h => by simpa only [rel] using h) (Glue.globOK_laid hL) (z08 r0 (z08 r1 z0f))).mono fun e W' ⟨he, hb⟩ => ?_
 subst he
 have g0 : DataW.Trod enc Tryd.prog W' 0 (fun b => decide (b < W.heap.size)) true 27 v0 d0 p0 := Below.trod Glue.laidOutK (by kernel_rfl) (of_decide_eq_true (by kernel_rfl)) h0 hb (fun x hx => hlt x (List.mem_append_left _ hx))
 have g1 : DataW.Trod enc Tryd.prog W' 0 (fun b => decide (b < W.heap.size)) true 27 v1 d1 p1 := Below.trod Glue.laidOutK (by kernel_rfl) (of_decide_eq_true (by kernel_rfl)) h1 hb (fun x hx => hlt x (List.mem_append_right _ hx))
 exact ⟨_, rfl, ⟨_, _, _, [], _, [], hW', trodAll_mk1 (shut_bool Tryd.underlying4 _), trodAll_mk2 g0 g1, rfl, hb.frame _, fun h => by cases h⟩⟩
theorem redlineNodes_holds : Rows.RedlineNodesSaid :=
 OpenClaim.holds_of_wide 3 Tryd.f3 rfl rfl rfl rfl rfl rfl rfl ⟨rfl, rfl, rfl, rfl, rfl⟩ rfl rfl rfl rfl rfl (by kernel_rfl) Tryd.func3 (by kernel_rfl)
  (of_decide_eq_true (by kernel_rfl)) (by unfold Func.isWrapper; rw [if_neg (by decide +kernel)]; exact ⟨rfl, rfl⟩)
  (fun os started H enc _ => redlineNodes_lifted os started H enc)
theorem redlineNodes_card : Rows.RedlineNodesCardSaid :=
 Claim7.holds_tied_plain_at .later [] [.data, .widerDeep] true (true, "a682ddb35bd874980c497e33451a1ec2a12883314d4fc7735400dbf2e89fc69b") false
  redlineNodes_holds (fun _ h => by cases h) (by kernel_rfl) (fun _ h => by cases h) redlineNodes_row_tie rfl ⟨rfl, rfl⟩ (by kernel_rfl) rfl
  (fun f fn hf hfn => by
   obtain rfl : f = 3 := Option.some.inj ((show Tryd.prog.funcNamed "pandect/pandectlaw50.RedlineNodes" = some 3 by kernel_rfl).symm.trans hf) |>.symm
   obtain rfl : fn = Tryd.f3 := (Option.some.inj (Tryd.func3.symm.trans hfn)).symm
   exact ⟨by kernel_rfl, fun j t ht => by
    rw [Tryd.params3] at ht
    have hm : t ∈ [27] := by have h' := Array.mem_of_getElem? ht; first | exact (by simpa using h') | (simp at h' ⊢; (repeat' (rcases h' with h' | h')) <;> simp)
    have hall : ([27].all fun u => !Tryd.prog.wantsStandIn u) = true := by kernel_rfl
    exact (show Tryd.prog.wantsStandIn t = false by simpa using List.all_eq_true.1 hall t hm)⟩)
  (by kernel_rfl)
end Go.Proofs.YtfechgagcgbldaaDoor
