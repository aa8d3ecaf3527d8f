/-
  Rows of package node: the arguments read as lists, the walks' contracts told as rows. No condition.
-/
import Derived.Test.YteehoppklgcggaaRows
import Derived.Test.YteehoppklgcggaaNodeRow
import Derived.Test.YteehoppklgcggaaNodeI
import Derived.ProofKit
import Derived.Lib.SmallJoins
namespace Go.Proofs.Yteehoppklgcggaa
open Go.ChangeShapes Go.WideShapes Go.ChangeAt Go.RowKit Go.Joins

set_option maxRecDepth 100000 in
theorem nodeHalves_lifted (os : Os) (started : os.Started) (H : Type) (enc : TypeId × Value → H) :
    ReturnsInHanded {} Try.checked os 9 .any (Rows.nodeHalvesSpec.pre6 enc Try.prog Try.f9 Rows.nodeHalvesRow.domain false) (Rows.nodeHalvesSpec.post enc Try.prog Try.f9 false true false false) := by
  refine returnsInHanded_of_change (C := Try.checked) own started (by kernel_rfl) Try.func9
    (ChangeSpec.witness6 (enc := enc) (C := Try.checked) false ⟨#[], #[.agg #[.bool true, .slice none 0 0, .slice none 0 0], .agg #[.bool true, .slice none 0 0, .slice none 0 0]], []⟩ 8 (by kernel_rfl) (by kernel_rfl) (by kernel_rfl) (by kernel_rfl)) ?_
  intro W base args ds gs before hval0 hW _ _
  have hval : ∀ (j : Nat) t v, Try.f9.params[j]? = some t → args[j]? = some v → Value.okWide Try.prog W .any base t v := hval0
  have hW0 := hW
  obtain ⟨p, q, hA0, hV, rfl, _, _⟩ := hW
  have hA : DataW.TrodAll enc Try.prog W 0 (fun _ => true) true Try.f9.params.toList args.toList ds p := hA0
  rw [Try.params9] at hA hval
  obtain ⟨v0, v1, d0, d1, p0, p1, rfl, rfl, rfl, h0, h1⟩ := trodAll_two hA
  obtain ⟨rfl, rfl⟩ := trodVars_none hV
  simp only [List.append_nil] at hW0
  have t0 : ∀ x ∈ p0, x.block < W.heap.size := fun x hx => by have := hW0.lt x (by simp [hx]); simpa using this
  obtain ⟨lf0, kv0, vv0, ks0, vs0, rfl, hk0, hv0⟩ := open_nd (hval 0 24 v0 rfl rfl) h0
  have t1 : ∀ x ∈ p1, x.block < W.heap.size := fun x hx => by have := hW0.lt x (by simp [hx]); simpa using this
  obtain ⟨lf1, kv1, vv1, ks1, vs1, rfl, hk1, hv1⟩ := open_nd (hval 1 24 v1 rfl rfl) h1
  refine (halves_law_c lf0 lf1 kv0 vv0 kv1 vv1 ks0 vs0 ks1 vs1 W hk0 hv0 hk1 hv1).mono fun e W' hR => ?_
  obtain ⟨u, rfl, rfl, x⟩ : ∃ u, e = Ending.returned u ∧ u = .bool true ∧ Ext No W W' := by cases e <;> first | exact ⟨_, rfl, hR⟩ | exact hR.elim
  exact ⟨_, rfl, _, _, _, [], _, [], hW0, trodAll_mk1 (shut_bool Try.underlying4 true), trodAll_mk2 (again_nd h0 t0 x) (again_nd h1 t1 x), rfl, x.below.frame _, fun h => by cases h⟩

theorem nodeHalves_holds : Rows.NodeHalvesSaid :=
  OpenClaim.holds_of_wide 9 Try.f9 rfl rfl rfl rfl rfl rfl rfl ⟨rfl, rfl, rfl, rfl, rfl⟩ rfl rfl rfl rfl rfl (by kernel_rfl) Try.func9 (by kernel_rfl)
    (of_decide_eq_true (by kernel_rfl)) (by unfold Func.isWrapper; first | (rw [if_pos (by decide +kernel)]; kernel_rfl) | (rw [if_neg (by decide +kernel)]; exact ⟨rfl, rfl⟩))
    (fun os started H enc _ => nodeHalves_lifted os started H enc)

set_option maxRecDepth 100000 in
theorem nodeBack_lifted (os : Os) (started : os.Started) (H : Type) (enc : TypeId × Value → H) :
    ReturnsInHanded {} Try.checked os 10 .any (Rows.nodeBackSpec.pre6 enc Try.prog Try.f10 Rows.nodeBackRow.domain false) (Rows.nodeBackSpec.post enc Try.prog Try.f10 false true false false) := by
  refine returnsInHanded_of_change (C := Try.checked) own started (by kernel_rfl) Try.func10
    (ChangeSpec.witness6 (enc := enc) (C := Try.checked) false ⟨#[], #[.agg #[.bool true, .slice none 0 0, .slice none 0 0]], []⟩ 8 (by kernel_rfl) (by kernel_rfl) (by kernel_rfl) (by kernel_rfl)) ?_
  intro W base args ds gs before hval0 hW _ _
  have hval : ∀ (j : Nat) t v, Try.f10.params[j]? = some t → args[j]? = some v → Value.okWide Try.prog W .any base t v := hval0
  have hW0 := hW
  obtain ⟨p, q, hA0, hV, rfl, _, _⟩ := hW
  have hA : DataW.TrodAll enc Try.prog W 0 (fun _ => true) true Try.f10.params.toList args.toList ds p := hA0
  rw [Try.params10] at hA hval
  obtain ⟨v0, d0, rfl, rfl, h0⟩ := trodAll_one hA
  obtain ⟨rfl, rfl⟩ := trodVars_none hV
  simp only [List.append_nil] at hW0
  have t0 : ∀ x ∈ p, x.block < W.heap.size := fun x hx => by have := hW0.lt x (by simp [hx]); simpa using this
  obtain ⟨lf0, kv0, vv0, ks0, vs0, rfl, hk0, hv0⟩ := open_nd (hval 0 24 v0 rfl rfl) h0
  refine (back_c lf0 kv0 vv0 ks0 vs0 W hk0 hv0).mono fun e W' hR => ?_
  obtain ⟨u, rfl, rfl, x⟩ : ∃ u, e = Ending.returned u ∧ u = .bool true ∧ Ext No W W' := by cases e <;> first | exact ⟨_, rfl, hR⟩ | exact hR.elim
  exact ⟨_, rfl, _, _, _, [], _, [], hW0, trodAll_mk1 (shut_bool Try.underlying4 true), trodAll_mk1 (again_nd h0 t0 x), rfl, x.below.frame _, fun h => by cases h⟩

theorem nodeBack_holds : Rows.NodeBackSaid :=
  OpenClaim.holds_of_wide 10 Try.f10 rfl rfl rfl rfl rfl rfl rfl ⟨rfl, rfl, rfl, rfl, rfl⟩ rfl rfl rfl rfl rfl (by kernel_rfl) Try.func10 (by kernel_rfl)
    (of_decide_eq_true (by kernel_rfl)) (by unfold Func.isWrapper; first | (rw [if_pos (by decide +kernel)]; kernel_rfl) | (rw [if_neg (by decide +kernel)]; exact ⟨rfl, rfl⟩))
    (fun os started H enc _ => nodeBack_lifted os started H enc)
end Go.Proofs.Yteehoppklgcggaa
