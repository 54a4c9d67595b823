/-
  The given statement of ToposortRespects: for every input the law returns true and leaves the input as it was. No condition.
-/
import Derived.Test.YtjibdljdkgedcaaGlue
import Derived.Test.YtjibdljdkgedcaaRespW
set_option maxRecDepth 100000
set_option linter.unusedSimpArgs false
set_option linter.unusedVariables false
namespace Go.Proofs.Ytjibdljdkgedcaa
open Go.ChangeShapes Go.WideShapes Go.ChangeAt Go.RowKit Abs
theorem toposortRespects_lifted (os : Os) (started : os.Started) (H : Type) (enc : TypeId × Value → H) :
    ReturnsInHanded {} Try.checked os 9 .any (Rows.toposortRespectsSpec.pre6 enc Try.prog Try.f9 Rows.toposortRespectsRow.domain false) (Rows.toposortRespectsSpec.post enc Try.prog Try.f9 false true false false) := by
  refine returnsInHanded_of_change (C := Try.checked) Glue.ownK started (by kernel_rfl) Try.func9
    (ChangeSpec.witness6 (enc := enc) (C := Try.checked) false ⟨#[], #[.slice none 0 0, .int .i64 0, .slice none 0 0], []⟩ 8 (by kernel_rfl) (by kernel_rfl) (by kernel_rfl) (by kernel_rfl)) ?_
  intro W base args ds gs before hval0 hW _ _
  have hval : ∀ (j : Nat) t v, Try.f9.params[j]? = some t → args[j]? = some v → Value.okWide Try.prog W .any base t v := hval0
  have hW' := hW
  obtain ⟨p, q, hA0, hV, rfl, _, _⟩ := hW
  have hA : DataW.TrodAll enc Try.prog W 0 (fun _ => true) true Try.f9.params.toList args.toList ds p := hA0
  rw [Try.params9] at hA hval
  obtain ⟨v0, v1, v2, d0, d1, d2, p0, p1, p2, rfl, rfl, rfl, h0, h1, h2⟩ := trodAll_three hA
  obtain ⟨rfl, rfl⟩ := trodVars_none hV
  clear hA0 hval0
  simp only [List.append_nil] at hW'
  have hlt : ∀ x ∈ p0 ++ p1 ++ p2, x.block < W.heap.size := fun x hx => by simpa using hW'.lt x hx
  obtain ⟨row, hrow, r0⟩ := Glue.rd_ints (hval 0 24 v0 rfl rfl) h0
  obtain ⟨n, hn, r1⟩ := Glue.rd_int (hval 1 3 v1 rfl rfl) h1
  obtain ⟨l, hl, r2⟩ := Glue.rd_pairs (hval 2 22 v2 rfl rfl) h2
  refine (law_calls (pc_LawRespects row n l hrow.1 hl) (v := .bool true) (fun s u h => by simpa only [rel] using h) (globOK_any W) (relAll_cons r0 (relAll_cons r1 (relAll_cons r2 relAll_nil)))).mono fun e W' ⟨he, hb⟩ => ?_
  subst he
  have g0 : DataW.Trod enc Try.prog W' 0 (fun b => decide (b < W.heap.size)) true 24 v0 d0 p0 := Below.trod Glue.laidOutK (by kernel_rfl) (of_decide_eq_true (by kernel_rfl)) h0 hb (fun x hx => hlt x (List.mem_append_left _ (List.mem_append_left _ hx)))
  have g1 : DataW.Trod enc Try.prog W' 0 (fun b => decide (b < W.heap.size)) true 3 v1 d1 p1 := Below.trod Glue.laidOutK (by kernel_rfl) (of_decide_eq_true (by kernel_rfl)) h1 hb (fun x hx => hlt x (List.mem_append_left _ (List.mem_append_right _ hx)))
  have g2 : DataW.Trod enc Try.prog W' 0 (fun b => decide (b < W.heap.size)) true 22 v2 d2 p2 := Below.trod Glue.laidOutK (by kernel_rfl) (of_decide_eq_true (by kernel_rfl)) h2 hb (fun x hx => hlt x (List.mem_append_right _ hx))
  exact ⟨_, rfl, ⟨_, _, _, [], _, [], hW', trodAll_mk1 (shut_bool Try.underlying4 _), trodAll_mk3 g0 g1 g2, rfl, hb.frame _, fun h => by cases h⟩⟩
theorem toposortRespects_holds : Rows.ToposortRespectsSaid :=
  OpenClaim.holds_of_wide 9 Try.f9 rfl rfl rfl rfl rfl rfl rfl ⟨rfl, rfl, rfl, rfl, rfl⟩ rfl rfl rfl rfl rfl (by kernel_rfl) Try.func9 (by kernel_rfl)
    (of_decide_eq_true (by kernel_rfl)) (by unfold Func.isWrapper; rw [if_neg (by decide +kernel)]; exact ⟨rfl, rfl⟩)
    (fun os started H enc _ => toposortRespects_lifted os started H enc)
end Go.Proofs.Ytjibdljdkgedcaa
