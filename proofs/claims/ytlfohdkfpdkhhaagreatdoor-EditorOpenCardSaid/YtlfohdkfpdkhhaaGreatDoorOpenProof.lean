/-
 The given card of EditorOpen: for every input the law returns true and leaves the input as it was. The package variables that the row lists start as the program's text lays them (the card ties them).
-/
import Derived.Test.YtlfohdkfpdkhhaaGreatDoorWG
import Derived.Test.YtlfohdkfpdkhhaaGreatDoorCards
import Derived.Test.YtlfohdkfpdkhhaaGreatDoorTie
set_option maxRecDepth 100000
set_option linter.unusedSimpArgs false
set_option linter.unusedVariables false
namespace Go.Proofs.YtlfohdkfpdkhhaaGreatDoor
open Go.ChangeShapes Go.WideShapes Go.ChangeAt Go.RowKit Abs
theorem trodAll_one' {H : Type} {enc : TypeId × Value -> H} {P : Program} {w : World} {base : Nat} {spare : Nat -> Bool} {held : Bool} {t : TypeId} {args : Array Value} {ds : List (DataW H)} {ps : List MemPlace} (h : DataW.TrodAll enc P w base spare held [t] args.toList ds ps) :
  ∃ v d p, args = #[v] /\ ds = [d] /\ p = ps /\ DataW.Trod enc P w base spare held t v d p := by
 obtain ⟨v0, vs0, d0, e0, p0, q0, hargs, rfl, rfl, h0, r0⟩ := trodAll_cons h
 obtain ⟨rfl, rfl, rfl⟩ := trodAll_nil r0
 exact ⟨v0, d0, p0, by cases args; simp_all, rfl, by simp, h0⟩
theorem editorOpen_lifted (os : Os) (started : os.Started) (H : Type) (enc : TypeId × Value -> H) :
  ReturnsInHanded {} Tryz.checked os 6 .any (fun w args => (Rows.editorOpenSpec.pre enc Tryz.prog Tryz.f6 [] false w args /\ laidMetH Tryz.prog Glue.laidList w) /\ sizedMet enc Tryz.prog Tryz.f6 (OpenSpec.ofChange Rows.editorOpenSpec) false w args)
   (Rows.editorOpenSpec.post enc Tryz.prog Tryz.f6 false true false false) := by
 refine returnsInHanded_of_change_and (C := Tryz.checked) (X := fun w _ => laidMetH Tryz.prog Glue.laidList w) (fun _ _ _ hh h => h.of_heap hh) Glue.ownK started (by kernel_rfl) Tryz.func6
  (ChangeSpec.witness_shaped (enc := enc) (C := Tryz.checked) (os := os) (X := fun w _ => laidMetH Tryz.prog Glue.laidList w) false (World.doorLaid Tryz.prog 400 os) #[.agg #[.int .i64 0, .int .i64 0, .int .i64 0, .int .i64 0, .string ByteArray.empty, .slice none 0 0, .slice none 0 0, .slice none 0 0]] 8 rfl (World.shaped_of_RefB (by kernel_rfl) (by kernel_rfl)) (by kernel_rfl) (by kernel_rfl) (by kernel_rfl) (Glue.door_met os _)) ?_
 intro W base args ds gs before hval0 hW _ _ hL _
 have hval : ∀ (j : Nat) t v, Tryz.f6.params[j]? = some t -> args[j]? = some v -> Value.okWide Tryz.prog W .any base t v := hval0
 have hW' := hW
 obtain ⟨p, q, hA0, hV, rfl, _, _⟩ := hW
 have hA : DataW.TrodAll enc Tryz.prog W 0 (fun _ => true) true Tryz.f6.params.toList args.toList ds p := hA0
 rw [Tryz.params6] at hA hval
 obtain ⟨v0, d0, p0, rfl, rfl, rfl, h0⟩ := trodAll_one' hA
 obtain ⟨rfl, rfl⟩ := trodVars_none hV
 clear hA0 hval0
 simp only [List.append_nil] at hW'
 have hlt : ∀ x ∈ p0, x.block < W.heap.size := fun x hx => by simpa using hW'.lt x hx
 obtain ⟨a0, hu, r0⟩ := Glue.rd_unit (hval 0 27 v0 rfl rfl) h0
 refine (zux (z008 a0 hu) (v := .bool true) (fun s u h => by simpa only [rel] using h) (Glue.globOK_laid hL) (z0p r0 z0y)).mono fun e W' ⟨he, hb⟩ => ?_
 subst he
 have g0 : DataW.Trod enc Tryz.prog W' 0 (fun b => decide (b < W.heap.size)) true 27 v0 d0 p0 := Below.trod Glue.laidOutK (by kernel_rfl) (of_decide_eq_true (by kernel_rfl)) h0 hb (fun x hx => hlt x hx)
 exact ⟨_, rfl, ⟨_, _, _, [], _, [], hW', trodAll_mk1 (shut_bool Tryz.underlying4 _), trodAll_mk1 g0, rfl, hb.frame _, fun h => by cases h⟩⟩
theorem editorOpen_holds : Rows.EditorOpenSaid :=
 OpenClaim.holds_of_wide 6 Tryz.f6 rfl rfl rfl rfl rfl rfl rfl ⟨rfl, rfl, rfl, rfl, rfl⟩ rfl rfl rfl rfl rfl (by kernel_rfl) Tryz.func6 (by kernel_rfl)
  (of_decide_eq_true (by kernel_rfl)) (by unfold Func.isWrapper; rw [if_neg (by decide +kernel)]; exact ⟨rfl, rfl⟩)
  (fun os started H enc _ => editorOpen_lifted os started H enc)
theorem editorOpen_card : Rows.EditorOpenCardSaid :=
 Claim7.holds_tied_plain_at .later [] [.data, .widerDeep] true (true, "eced605825168e1d8023b1549c972621e83833b1a17d4a50dc3649740fc5e4c1") false
  editorOpen_holds (fun _ h => by cases h) (by kernel_rfl) (fun _ h => by cases h) editorOpen_row_tie rfl ⟨rfl, rfl⟩ (by kernel_rfl) rfl
  (fun f fn hf hfn => by
   obtain rfl : f = 6 := Option.some.inj ((show Tryz.prog.funcNamed "pandect/pandectlaw51.EditorOpen" = some 6 by kernel_rfl).symm.trans hf) |>.symm
   obtain rfl : fn = Tryz.f6 := (Option.some.inj (Tryz.func6.symm.trans hfn)).symm
   exact ⟨by kernel_rfl, fun j t ht => by
    rw [Tryz.params6] at ht
    have hm : t ∈ [27] := by have h' := Array.mem_of_getElem? ht; first | exact (by simpa using h') | (simp at h' ⊢; (repeat' (rcases h' with h' | h')) <;> simp)
    have hall : ([27].all fun u => !Tryz.prog.wantsStandIn u) = true := by kernel_rfl
    exact (show Tryz.prog.wantsStandIn t = false by simpa using List.all_eq_true.1 hall t hm)⟩)
  (by kernel_rfl)
end Go.Proofs.YtlfohdkfpdkhhaaGreatDoor
