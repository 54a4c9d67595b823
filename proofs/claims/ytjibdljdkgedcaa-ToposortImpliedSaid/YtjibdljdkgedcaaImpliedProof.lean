/-
  The given statement of ToposortImplied: for every input the law returns true and leaves the input as it was. No condition.
-/
import Derived.Test.YtjibdljdkgedcaaGlue
import Derived.Test.YtjibdljdkgedcaaImpliedW
namespace Go.Proofs.Ytjibdljdkgedcaa
open Go.ChangeShapes Go.WideShapes Go.ChangeAt Go.RowKit Abs
set_option maxRecDepth 100000 in
theorem toposortImplied_lifted (os : Os) (started : os.Started) (H : Type) (enc : TypeId × Value → H) :
    ReturnsInHanded {} Try.checked os 7 .any (Rows.toposortImpliedSpec.pre6 enc Try.prog Try.f7 Rows.toposortImpliedRow.domain false) (Rows.toposortImpliedSpec.post enc Try.prog Try.f7 false true false false) := by
  refine returnsInHanded_of_change (C := Try.checked) Glue.ownK started (by kernel_rfl) Try.func7
    (ChangeSpec.witness6 (enc := enc) (C := Try.checked) false ⟨#[], #[.int .i64 0, .slice none 0 0, .int .i64 0, .int .i64 0], []⟩ 8 (by kernel_rfl) (by kernel_rfl) (by kernel_rfl) (by kernel_rfl)) ?_
  intro W base args ds gs before hval0 hW _ _
  have hval : ∀ (j : Nat) t v, Try.f7.params[j]? = some t → args[j]? = some v → Value.okWide Try.prog W .any base t v := hval0
  have hW' := hW
  obtain ⟨p, q, hA0, hV, rfl, _, _⟩ := hW
  have hA : DataW.TrodAll enc Try.prog W 0 (fun _ => true) true Try.f7.params.toList args.toList ds p := hA0
  rw [Try.params7] at hA hval
  obtain ⟨v0, v1, v2, v3, d0, d1, d2, d3, p0, p1, p2, p3, rfl, rfl, rfl, h0, h1, h2, h3⟩ := trodAll_four hA
  obtain ⟨rfl, rfl⟩ := trodVars_none hV
  clear hA0 hval0
  simp only [List.append_nil] at hW'
  have hlt : ∀ x ∈ p0 ++ p1 ++ p2 ++ p3, x.block < W.heap.size := fun x hx => by simpa using hW'.lt x hx
  obtain ⟨n, hn, r0⟩ := Glue.rd_int (hval 0 3 v0 rfl rfl) h0
  obtain ⟨l, hl, r1⟩ := Glue.rd_pairs (hval 1 22 v1 rfl rfl) h1
  obtain ⟨a, ha, r2⟩ := Glue.rd_int (hval 2 3 v2 rfl rfl) h2
  obtain ⟨b, hb', r3⟩ := Glue.rd_int (hval 3 3 v3 rfl rfl) h3
  refine (law_calls (pc_LawImplied n l a b hl) (v := .bool true) (fun s u h => by simpa only [rel] using h) (globOK_any W) (relAll_cons r0 (relAll_cons r1 (relAll_cons r2 (relAll_cons r3 relAll_nil))))).mono fun e W' ⟨he, hb⟩ => ?_
  subst he
  have g0 : DataW.Trod enc Try.prog W' 0 (fun b => decide (b < W.heap.size)) true 3 v0 d0 p0 := Below.trod Glue.laidOutK (by kernel_rfl) (of_decide_eq_true (by kernel_rfl)) h0 hb (fun x hx => hlt x (List.mem_append_left _ (List.mem_append_left _ (List.mem_append_left _ hx))))
  have g1 : DataW.Trod enc Try.prog W' 0 (fun b => decide (b < W.heap.size)) true 22 v1 d1 p1 := Below.trod Glue.laidOutK (by kernel_rfl) (of_decide_eq_true (by kernel_rfl)) h1 hb (fun x hx => hlt x (List.mem_append_left _ (List.mem_append_left _ (List.mem_append_right _ hx))))
  have g2 : DataW.Trod enc Try.prog W' 0 (fun b => decide (b < W.heap.size)) true 3 v2 d2 p2 := Below.trod Glue.laidOutK (by kernel_rfl) (of_decide_eq_true (by kernel_rfl)) h2 hb (fun x hx => hlt x (List.mem_append_left _ (List.mem_append_right _ hx)))
  have g3 : DataW.Trod enc Try.prog W' 0 (fun b => decide (b < W.heap.size)) true 3 v3 d3 p3 := Below.trod Glue.laidOutK (by kernel_rfl) (of_decide_eq_true (by kernel_rfl)) h3 hb (fun x hx => hlt x (List.mem_append_right _ hx))
  exact ⟨_, rfl, ⟨_, _, _, [], _, [], hW', trodAll_mk1 (shut_bool Try.underlying4 _), trodAll_mk4 g0 g1 g2 g3, rfl, hb.frame _, fun h => by cases h⟩⟩
theorem toposortImplied_holds : Rows.ToposortImpliedSaid :=
  OpenClaim.holds_of_wide 7 Try.f7 rfl rfl rfl rfl rfl rfl rfl ⟨rfl, rfl, rfl, rfl, rfl⟩ rfl rfl rfl rfl rfl (by kernel_rfl) Try.func7 (by kernel_rfl)
    (of_decide_eq_true (by kernel_rfl)) (by unfold Func.isWrapper; rw [if_neg (by decide +kernel)]; exact ⟨rfl, rfl⟩)
    (fun os started H enc _ => toposortImplied_lifted os started H enc)
end Go.Proofs.Ytjibdljdkgedcaa
