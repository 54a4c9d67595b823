/-
 The given card of TopRepeal: for every input the law returns true and leaves the input as it was. The package variables that the row lists start as the program's text lays them (the card ties them).
-/
import Derived.Test.YtppebcifiejplaaGreatDoorWG
import Derived.Test.YtppebcifiejplaaGreatDoorCards
import Derived.Test.YtppebcifiejplaaGreatDoorTie
import Derived.Lay
set_option maxRecDepth 100000
set_option linter.unusedSimpArgs false
set_option linter.unusedVariables false
namespace Go.Proofs.YtppebcifiejplaaGreatDoor
open Go.ChangeShapes Go.WideShapes Go.ChangeAt Go.RowKit Abs
set_option maxRecDepth 100000
def repA : Array Value := #[.agg #[.int .i64 0, .int .i64 0, .int .i64 0, .int .i64 0, .string ByteArray.empty, .slice none 0 0, .slice none 0 0, .slice none 0 0], .agg #[.int .i64 0, .int .i64 0, .int .i64 0, .int .i64 0, .slice none 0 0, .slice none 0 0, .int .i64 0, .int .i64 0, .int .i64 0, .int .i64 0, .int .i64 0, .int .i64 0, .string ByteArray.empty, .slice none 0 0, .slice none 0 0, .slice none 0 0, .slice none 0 0, .slice none 0 0, .string ByteArray.empty, .string ByteArray.empty, .int .i64 0, .int .i64 0, .string ByteArray.empty, .int .i64 0, .int .i64 0, .int .i64 0, .string ByteArray.empty, .slice none 0 0]]
noncomputable def repW (os : Os) : World := (Glue.wR os).forCall (fun _ _ => 0) ⟨#[], repA, []⟩
theorem rep_zip (os : Os) : (repW os).variablesZipB Tryz.prog = true := by kernel_rfl
theorem rep_beg (os : Os) : ((repW os).heap.toList.drop Tryz.prog.globals.size).take ((begin Tryz.prog (fun _ _ => 0) default).world.heap.size - Tryz.prog.globals.size) = (begin Tryz.prog (fun _ _ => 0) default).world.heap.toList.drop Tryz.prog.globals.size := by kernel_rfl
theorem rep_sh (os : Os) : (repW os).Shaped Tryz.checked.prog := World.shaped_of_ZipB (rep_zip os) (rep_beg os)
theorem rep_ok (os : Os) : Input.okWideB Tryz.checked.prog (repW os) 4 ⟨#[], repA, []⟩ = true := by kernel_rfl
theorem rep_pre (os : Os) (H : Type) (enc : TypeId × Value -> H) : Rows.topRepealSpec.preB enc Tryz.checked.prog Tryz.f4 [] false (repW os).memory repA 8 = true := by kernel_rfl
theorem rep_sz (os : Os) (H : Type) (enc : TypeId × Value -> H) : Rows.topRepealSpec.sizedB enc Tryz.checked.prog Tryz.f4 false (repW os).memory repA 8 = true := by kernel_rfl
theorem rep_facts : joinedFacts Tryz.pinned.checked.prog 4 Tryz.f4 Rows.topRepealSpec Rows.topRepealRow = true := by kernel_rfl
theorem rep_name : Tryz.pinned.checked.prog.funcNamed Rows.topRepealRow.func = some 4 := by kernel_rfl
theorem rep_inst : Tryz.f4.isInstance Tryz.pinned.checked.prog Rows.topRepealRow.origin Rows.topRepealRow.targs := of_decide_eq_true (by kernel_rfl)
theorem topRepeal_lifted (os : Os) (started : os.Started) (H : Type) (enc : TypeId × Value -> H) :
  ReturnsInHanded {} Tryz.checked os 4 .any (fun w args => (Rows.topRepealSpec.pre enc Tryz.prog Tryz.f4 [] false w args /\ laidMetH Tryz.prog Glue.laidList w) /\ sizedMet enc Tryz.prog Tryz.f4 (OpenSpec.ofChange Rows.topRepealSpec) false w args)
   (Rows.topRepealSpec.post enc Tryz.prog Tryz.f4 false true false false) := by
 refine returnsInHanded_of_change_and (C := Tryz.checked) (X := fun w _ => laidMetH Tryz.prog Glue.laidList w) (fun _ _ _ hh h => h.of_heap hh) Glue.ownK started (by kernel_rfl) Tryz.func4
  (ChangeSpec.witness_shaped (enc := enc) (C := Tryz.checked) (os := os) (X := fun w _ => laidMetH Tryz.prog Glue.laidList w) false (Glue.wR os) #[.agg #[.int .i64 0, .int .i64 0, .int .i64 0, .int .i64 0, .string ByteArray.empty, .slice none 0 0, .slice none 0 0, .slice none 0 0], .agg #[.int .i64 0, .int .i64 0, .int .i64 0, .int .i64 0, .slice none 0 0, .slice none 0 0, .int .i64 0, .int .i64 0, .int .i64 0, .int .i64 0, .int .i64 0, .int .i64 0, .string ByteArray.empty, .slice none 0 0, .slice none 0 0, .slice none 0 0, .slice none 0 0, .slice none 0 0, .string ByteArray.empty, .string ByteArray.empty, .int .i64 0, .int .i64 0, .string ByteArray.empty, .int .i64 0, .int .i64 0, .int .i64 0, .string ByteArray.empty, .slice none 0 0]] 8 (Glue.wR_os os) (rep_sh os) (rep_ok os) (rep_pre os H enc) (rep_sz os H enc) (Glue.door_met os _)) ?_
 intro W base args ds gs before hval0 hW _ _ hL _
 have hval : ∀ (j : Nat) t v, Tryz.f4.params[j]? = some t -> args[j]? = some v -> Value.okWide Tryz.prog W .any base t v := hval0
 have hW' := hW
 obtain ⟨p, q, hA0, hV, rfl, _, _⟩ := hW
 have hA : DataW.TrodAll enc Tryz.prog W 0 (fun _ => true) true Tryz.f4.params.toList args.toList ds p := hA0
 rw [Tryz.params4] at hA hval
 obtain ⟨v0, v1, d0, d1, p0, p1, rfl, rfl, rfl, h0, h1⟩ := trodAll_two hA
 obtain ⟨rfl, rfl⟩ := trodVars_none hV
 clear hA0 hval0
 simp only [List.append_nil] at hW'
 have hlt : ∀ x ∈ p0 ++ p1, x.block < W.heap.size := fun x hx => by simpa using hW'.lt x hx
 obtain ⟨u, hu, r0⟩ := Glue.rd_unit (hval 0 27 v0 rfl rfl) h0
 obtain ⟨d, V, r1⟩ := Glue.rd_eit (hval 1 45 v1 rfl rfl) h1
 refine (zsp (zp8 u hu d V) (v := .bool true) (fun s u h => by simpa only [rel] using h) (Glue.globOK_laid hL) (z0m r0 (z0m r1 z0q))).mono fun e W' ⟨he, hb⟩ => ?_
 subst he
 have g0 : DataW.Trod enc Tryz.prog W' 0 (fun b => decide (b < W.heap.size)) true 27 v0 d0 p0 := Below.trod Glue.laidOutK (by kernel_rfl) (of_decide_eq_true (by kernel_rfl)) h0 hb (fun x hx => hlt x (List.mem_append_left _ hx))
 have g1 : DataW.Trod enc Tryz.prog W' 0 (fun b => decide (b < W.heap.size)) true 45 v1 d1 p1 := Below.trod Glue.laidOutK (by kernel_rfl) (of_decide_eq_true (by kernel_rfl)) h1 hb (fun x hx => hlt x (List.mem_append_right _ hx))
 exact ⟨_, rfl, ⟨_, _, _, [], _, [], hW', trodAll_mk1 (shut_bool Tryz.underlying4 _), trodAll_mk2 g0 g1, rfl, hb.frame _, fun h => by cases h⟩⟩
theorem topRepeal_holds : Rows.TopRepealSaid :=
 OpenClaim.holds_of_wide 4 Tryz.f4 rfl rfl rfl rfl rfl rfl rfl ⟨rfl, rfl, rfl, rfl, rfl⟩ rfl rfl rfl rfl rfl rep_name Tryz.func4 rep_facts
  rep_inst (by unfold Func.isWrapper; rw [if_neg (by decide +kernel)]; exact ⟨rfl, rfl⟩)
  (fun os started H enc _ => topRepeal_lifted os started H enc)
theorem topRepeal_card : Rows.TopRepealCardSaid :=
 Claim7.holds_tied_plain_at .later [] [.data, .data, .widerDeep, .funcs, .pinned] true (true, "3ab051678950f9fe572aacfa804904ee5e68b36b1f9e571f1a1b29bc012a89b7") false
  topRepeal_holds (fun _ h => by cases h) (by kernel_rfl) (fun _ h => by cases h) topRepeal_row_tie rfl ⟨rfl, rfl⟩ (by kernel_rfl) rfl
  (fun f fn hf hfn => by
   obtain rfl : f = 4 := Option.some.inj ((show Tryz.prog.funcNamed "pandect/pandecttop.TopRepeal" = some 4 by kernel_rfl).symm.trans hf) |>.symm
   obtain rfl : fn = Tryz.f4 := (Option.some.inj (Tryz.func4.symm.trans hfn)).symm
   exact ⟨by kernel_rfl, fun j t ht => by
    rw [Tryz.params4] at ht
    have hm : t ∈ [27, 45] := by have h' := Array.mem_of_getElem? ht; first | exact (by simpa using h') | (simp at h' ⊢; (repeat' (rcases h' with h' | h')) <;> simp)
    have hall : ([27, 45].all fun u => !Tryz.prog.wantsStandIn u) = true := by kernel_rfl
    exact (show Tryz.prog.wantsStandIn t = false by simpa using List.all_eq_true.1 hall t hm)⟩)
  (by kernel_rfl)
end Go.Proofs.YtppebcifiejplaaGreatDoor
