/-
 The given card of TreeeditLeavesRest: for every input the law returns true and leaves the input as it was. The package variables that the row lists start as the program's text lays them (the card ties them).
-/
import Derived.Test.YtkhjpcmpljpmjaaGreatDoorGlues
import Derived.Test.YtkhjpcmpljpmjaaGreatDoorLeavesVW
import Derived.Test.YtkhjpcmpljpmjaaGreatDoorCards
import Derived.Test.YtkhjpcmpljpmjaaGreatDoorTie
set_option maxRecDepth 100000
set_option linter.unusedSimpArgs false
set_option linter.unusedVariables false
namespace Go.Proofs.YtkhjpcmpljpmjaaGreatDoor
open Go.ChangeShapes Go.WideShapes Go.ChangeAt Go.RowKit Abs
theorem Glue.rd_u8 {H : Type} {enc : TypeId × Value → H} {W : World} {base : Nat} {r : Reach} {b0 : Nat} {spare : Nat → Bool} {held : Bool} {v : Value} {d : DataW H} {p : List MemPlace} (hv : Value.okWide Tryz.prog W r b0 5 v) (h : DataW.Trod enc Tryz.prog W base spare held 5 v d p) :
  ∃ i : Int, (0 ≤ i ∧ i ≤ 255) ∧ rel (readS W) (.int .u8 i) v := Go.Proofs.YtkhjpcmpljpmjaaGreatDoor.rd_u8 hv h
theorem treeeditLeavesRest_lifted (os : Os) (started : os.Started) (H : Type) (enc : TypeId × Value → H) :
  ReturnsInHanded {} Tryz.checked os 8 .any (fun w args => (Rows.treeeditLeavesRestSpec.pre enc Tryz.prog Tryz.f8 [] false w args ∧ laidMetH Tryz.prog Glue.laidList w) ∧ sizedMet enc Tryz.prog Tryz.f8 (OpenSpec.ofChange Rows.treeeditLeavesRestSpec) false w args)
   (Rows.treeeditLeavesRestSpec.post enc Tryz.prog Tryz.f8 false true false false) := by
 refine returnsInHanded_of_change_and (C := Tryz.checked) (X := fun w _ => laidMetH Tryz.prog Glue.laidList w) (fun _ _ _ hh h => h.of_heap hh) Glue.ownK started (by kernel_rfl) Tryz.func8
  (ChangeSpec.witness_shaped (enc := enc) (C := Tryz.checked) (os := os) (X := fun w _ => laidMetH Tryz.prog Glue.laidList w) false (World.doorLaid Tryz.prog 400 os) #[.agg #[.int .i64 0, .int .i64 0, .int .i64 0, .int .i64 0, .string ByteArray.empty, .slice none 0 0, .slice none 0 0, .slice none 0 0], .agg #[.int .i64 0, .int .i64 0, .int .i64 0], .agg #[.int .i64 0, .int .i64 0, .int .i64 0], .int .i64 0, .string ByteArray.empty, .slice none 0 0, .int .u8 0] 8 rfl (World.shaped_of_RefB (by kernel_rfl) (by kernel_rfl)) (by kernel_rfl) (by kernel_rfl) (by kernel_rfl) (Glue.door_met os _)) ?_
 intro W base args ds gs before hval0 hW _ _ hL _
 have hval : ∀ (j : Nat) t v, Tryz.f8.params[j]? = some t → args[j]? = some v → Value.okWide Tryz.prog W .any base t v := hval0
 have hW' := hW
 obtain ⟨p, q, hA0, hV, rfl, _, _⟩ := hW
 have hA : DataW.TrodAll enc Tryz.prog W 0 (fun _ => true) true Tryz.f8.params.toList args.toList ds p := hA0
 rw [Tryz.params8] at hA hval
 obtain ⟨v0, v1, v2, v3, v4, v5, v6, d0, d1, d2, d3, d4, d5, d6, p0, p1, p2, p3, p4, p5, p6, rfl, rfl, rfl, h0, h1, h2, h3, h4, h5, h6⟩ := Glue.trodAll_seven hA
 obtain ⟨rfl, rfl⟩ := trodVars_none hV
 clear hA0 hval0
 simp only [List.append_nil] at hW'
 have hlt : ∀ x ∈ p0 ++ p1 ++ p2 ++ p3 ++ p4 ++ p5 ++ p6, x.block < W.heap.size := fun x hx => by simpa using hW'.lt x hx
 obtain ⟨a0, hu, r0⟩ := Glue.rd_unit (hval 0 27 v0 rfl rfl) h0
 obtain ⟨a1, _hj1, r1⟩ := Glue.rd_id (hval 1 23 v1 rfl rfl) h1
 obtain ⟨a2, _hj2, r2⟩ := Glue.rd_id (hval 2 23 v2 rfl rfl) h2
 obtain ⟨a3, _hj3, r3⟩ := Glue.rd_int (hval 3 3 v3 rfl rfl) h3
 obtain ⟨a4, _hj4, r4⟩ := Glue.rd_str (hval 4 9 v4 rfl rfl) h4
 obtain ⟨a5, hl, r5⟩ := Glue.rd_words (hval 5 24 v5 rfl rfl) h5
 obtain ⟨a6, hk6, r6⟩ := Glue.rd_u8 (hval 6 5 v6 rfl rfl) h6
 refine (law_calls (pc_LawLeavesRest a0 hu a1 a2 a3 a4 a5 hl.1 hl.2 a6 hk6) (v := .bool true) (fun s u h => by simpa only [rel] using h) (Glue.globOK_laid hL) (relAll_cons r0 (relAll_cons r1 (relAll_cons r2 (relAll_cons r3 (relAll_cons r4 (relAll_cons r5 (relAll_cons r6 relAll_nil)))))))).mono fun e W' ⟨he, hb⟩ => ?_
 subst he
 have g0 : DataW.Trod enc Tryz.prog W' 0 (fun b => decide (b < W.heap.size)) true 27 v0 d0 p0 := Below.trod Glue.laidOutK (by kernel_rfl) (of_decide_eq_true (by kernel_rfl)) h0 hb (fun x hx => hlt x (List.mem_append_left _ (List.mem_append_left _ (List.mem_append_left _ (List.mem_append_left _ (List.mem_append_left _ (List.mem_append_left _ hx)))))))
 have g1 : DataW.Trod enc Tryz.prog W' 0 (fun b => decide (b < W.heap.size)) true 23 v1 d1 p1 := Below.trod Glue.laidOutK (by kernel_rfl) (of_decide_eq_true (by kernel_rfl)) h1 hb (fun x hx => hlt x (List.mem_append_left _ (List.mem_append_left _ (List.mem_append_left _ (List.mem_append_left _ (List.mem_append_left _ (List.mem_append_right _ hx)))))))
 have g2 : DataW.Trod enc Tryz.prog W' 0 (fun b => decide (b < W.heap.size)) true 23 v2 d2 p2 := Below.trod Glue.laidOutK (by kernel_rfl) (of_decide_eq_true (by kernel_rfl)) h2 hb (fun x hx => hlt x (List.mem_append_left _ (List.mem_append_left _ (List.mem_append_left _ (List.mem_append_left _ (List.mem_append_right _ hx))))))
 have g3 : DataW.Trod enc Tryz.prog W' 0 (fun b => decide (b < W.heap.size)) true 3 v3 d3 p3 := Below.trod Glue.laidOutK (by kernel_rfl) (of_decide_eq_true (by kernel_rfl)) h3 hb (fun x hx => hlt x (List.mem_append_left _ (List.mem_append_left _ (List.mem_append_left _ (List.mem_append_right _ hx)))))
 have g4 : DataW.Trod enc Tryz.prog W' 0 (fun b => decide (b < W.heap.size)) true 9 v4 d4 p4 := Below.trod Glue.laidOutK (by kernel_rfl) (of_decide_eq_true (by kernel_rfl)) h4 hb (fun x hx => hlt x (List.mem_append_left _ (List.mem_append_left _ (List.mem_append_right _ hx))))
 have g5 : DataW.Trod enc Tryz.prog W' 0 (fun b => decide (b < W.heap.size)) true 24 v5 d5 p5 := Below.trod Glue.laidOutK (by kernel_rfl) (of_decide_eq_true (by kernel_rfl)) h5 hb (fun x hx => hlt x (List.mem_append_left _ (List.mem_append_right _ hx)))
 have g6 : DataW.Trod enc Tryz.prog W' 0 (fun b => decide (b < W.heap.size)) true 5 v6 d6 p6 := Below.trod Glue.laidOutK (by kernel_rfl) (of_decide_eq_true (by kernel_rfl)) h6 hb (fun x hx => hlt x (List.mem_append_right _ hx))
 exact ⟨_, rfl, ⟨_, _, _, [], _, [], hW', trodAll_mk1 (shut_bool Tryz.underlying4 _), Glue.trodAll_mk7 g0 g1 g2 g3 g4 g5 g6, rfl, hb.frame _, fun h => by cases h⟩⟩
theorem treeeditLeavesRest_holds : Rows.TreeeditLeavesRestSaid :=
 OpenClaim.holds_of_wide 8 Tryz.f8 rfl rfl rfl rfl rfl rfl rfl ⟨rfl, rfl, rfl, rfl, rfl⟩ rfl rfl rfl rfl rfl (by kernel_rfl) Tryz.func8 (by kernel_rfl)
  (of_decide_eq_true (by kernel_rfl)) (by unfold Func.isWrapper; rw [if_neg (by decide +kernel)]; exact ⟨rfl, rfl⟩)
  (fun os started H enc _ => treeeditLeavesRest_lifted os started H enc)
theorem treeeditLeavesRest_card : Rows.TreeeditLeavesRestCardSaid :=
 Claim7.holds_tied_plain_at .later [] [.data, .widerDeep] true (true, "ecb402ccdb06ff27f40af9c6c7fb1bba85db45a3dcf912f06622dc8bc79ff94e") false
  treeeditLeavesRest_holds (fun _ h => by cases h) (by kernel_rfl) (fun _ h => by cases h) treeeditLeavesRest_row_tie rfl ⟨rfl, rfl⟩ (by kernel_rfl) rfl
  (fun f fn hf hfn => by
   obtain rfl : f = 8 := Option.some.inj ((show Tryz.prog.funcNamed "pandect/pandectlaw08.TreeeditLeavesRest" = some 8 by kernel_rfl).symm.trans hf) |>.symm
   obtain rfl : fn = Tryz.f8 := (Option.some.inj (Tryz.func8.symm.trans hfn)).symm
   exact ⟨by kernel_rfl, fun j t ht => by
    rw [Tryz.params8] at ht
    have hm : t ∈ [27, 23, 3, 9, 24, 5] := by have h' := Array.mem_of_getElem? ht; first | exact (by simpa using h') | (simp at h' ⊢; (repeat' (rcases h' with h' | h')) <;> simp)
    have hall : ([27, 23, 3, 9, 24, 5].all fun u => !Tryz.prog.wantsStandIn u) = true := by kernel_rfl
    exact (show Tryz.prog.wantsStandIn t = false by simpa using List.all_eq_true.1 hall t hm)⟩)
  (by kernel_rfl)
end Go.Proofs.YtkhjpcmpljpmjaaGreatDoor
