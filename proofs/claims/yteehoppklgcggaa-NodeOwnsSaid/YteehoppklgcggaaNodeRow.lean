/-
  Rows of package node: the arguments read as lists, the walks' contracts told as rows. No condition.
-/
import Derived.Test.YteehoppklgcggaaRows
import Derived.Test.YteehoppklgcggaaNodeD
import Derived.ProofKit
import Derived.Lib.SmallJoins
namespace Go.Proofs.Yteehoppklgcggaa
open Go.ChangeShapes Go.WideShapes Go.ChangeAt Go.RowKit Go.Joins

theorem own : ownKnob Try.prog.godebug = none := by kernel_rfl
theorem laidOut : laidOutB Try.prog = true := by kernel_rfl
theorem nd_cells : Try.prog.cellsOf 24 = 3 := by kernel_rfl
theorem int_cells : Try.prog.cellsOf 3 = 1 := by kernel_rfl

/-- a slice of ints, read: it stands for a list -/
theorem open_rd {H : Type} {enc : TypeId × Value → H} {W : World} {fuel : Nat} {v : Value} {x : DataW H × List MemPlace} (h : DataW.trod enc Try.prog W 0 (fun _ => true) true fuel 22 [v] = some x) : ∃ xs, RdI v xs W := by
  rcases open_ints Try.underlying22 Try.underlying3 int_cells h with ⟨hcs, _⟩ | ⟨a, len, cap, zs, hcs, _, hl, hm, hz, _, hcell, _⟩
  · simp only [List.cons.injEq, and_true] at hcs; subst hcs; exact ⟨[], by simpa [RdI] using Rd.nil 1 W⟩
  · simp only [List.cons.injEq, and_true] at hcs; subst hcs
    simp only [if_true] at hz
    refine ⟨zs.take len, some a, cap, by simp [hz, Nat.min_eq_left hl], by simp [hz, Nat.min_eq_left hl, hl], (by unfold maxLen at hm; omega), by simp, fun j u hj => ?_⟩
    rw [List.getElem?_map] at hj
    obtain ⟨y, hy, rfl⟩ := Option.map_eq_some_iff.1 hj
    have hjl : j < len := by
      have := (List.getElem?_eq_some_iff.1 hy).1
      simp at this; omega
    have hy' : zs[j]? = some y := by rw [List.getElem?_take] at hy; simpa [hjl] using hy
    have hc := hcell j (by omega)
    rw [show zs.getD j 0 = y from by simp [List.getD, hy']] at hc
    obtain ⟨b, off, spot⟩ := a
    have hspot : spot = none := by
      have h0 := hcell 0 (by omega)
      simpa [Addr.add] using World.cell?_spot h0
    subst hspot
    exact ⟨b, off, rfl, by unfold Cel; rw [← Go.WideShapes.add_plain]; exact hc⟩

/-- a node, read: a flag and two lists -/
theorem open_nd {H : Type} {enc : TypeId × Value → H} {W : World} {base : Nat} {v : Value} {d : DataW H} {p : List MemPlace} (hv : Value.okWide Try.prog W .any base 24 v)
    (h : DataW.Trod enc Try.prog W 0 (fun _ => true) true 24 v d p) : ∃ lf kv vv ks vs, v = .agg #[.bool lf, kv, vv] ∧ RdI kv ks W ∧ RdI vv vs W := by
  obtain ⟨v0, v1, v2, y0, y1, y2, n, rfl, -, -, h0, h1, h2⟩ := open_agg3 Try.underlying24 (by kernel_rfl) nd_cells hv h
  obtain ⟨lf, hl, -⟩ := DataW.trod_bool Try.underlying4 h0
  simp only [List.cons.injEq, and_true] at hl; subst hl
  obtain ⟨ks, hk⟩ := open_rd h1
  obtain ⟨vs, hs⟩ := open_rd h2
  exact ⟨lf, v1, v2, ks, vs, rfl, hk, hs⟩

theorem again_nd {H : Type} {enc : TypeId × Value → H} {W W' : World} {v : Value} {d : DataW H} {p : List MemPlace} (h : DataW.Trod enc Try.prog W 0 (fun _ => true) true 24 v d p)
    (hlt : ∀ x ∈ p, x.block < W.heap.size) (x : Ext No W W') : DataW.Trod enc Try.prog W' 0 (fun b => decide (b < W.heap.size)) true 24 v d p :=
  Below.trod laidOut (by kernel_rfl) (of_decide_eq_true (by kernel_rfl)) h x.below hlt

set_option maxRecDepth 100000 in
theorem nodeChecks_lifted (os : Os) (started : os.Started) (H : Type) (enc : TypeId × Value → H) :
    ReturnsInHanded {} Try.checked os 3 .any (Rows.nodeChecksSpec.pre6 enc Try.prog Try.f3 Rows.nodeChecksRow.domain false) (Rows.nodeChecksSpec.post enc Try.prog Try.f3 false true false false) := by
  refine returnsInHanded_of_change (C := Try.checked) own started (by kernel_rfl) Try.func3
    (ChangeSpec.witness6 (enc := enc) (C := Try.checked) false ⟨#[], #[.agg #[.bool true, .slice none 0 0, .slice none 0 0]], []⟩ 8 (by kernel_rfl) (by kernel_rfl) (by kernel_rfl) (by kernel_rfl)) ?_
  intro W base args ds gs before hval0 hW _ _
  have hval : ∀ (j : Nat) t v, Try.f3.params[j]? = some t → args[j]? = some v → Value.okWide Try.prog W .any base t v := hval0
  have hW0 := hW
  obtain ⟨p, q, hA0, hV, rfl, _, _⟩ := hW
  have hA : DataW.TrodAll enc Try.prog W 0 (fun _ => true) true Try.f3.params.toList args.toList ds p := hA0
  rw [Try.params3] at hA hval
  obtain ⟨v0, d0, rfl, rfl, h0⟩ := trodAll_one hA
  obtain ⟨rfl, rfl⟩ := trodVars_none hV
  simp only [List.append_nil] at hW0
  have t0 : ∀ x ∈ p, x.block < W.heap.size := fun x hx => by have := hW0.lt x (by simp [hx]); simpa using this
  obtain ⟨lf0, kv0, vv0, ks0, vs0, rfl, hk0, hv0⟩ := open_nd (hval 0 24 v0 rfl rfl) h0
  refine (checks_c lf0 kv0 vv0 ks0 vs0 W hk0 hv0).mono fun e W' hR => ?_
  obtain ⟨u, rfl, rfl, x⟩ : ∃ u, e = Ending.returned u ∧ u = .bool true ∧ Ext No W W' := by cases e <;> first | exact ⟨_, rfl, hR⟩ | exact hR.elim
  exact ⟨_, rfl, _, _, _, [], _, [], hW0, trodAll_mk1 (shut_bool Try.underlying4 true), trodAll_mk1 (again_nd h0 t0 x), rfl, x.below.frame _, fun h => by cases h⟩

theorem nodeChecks_holds : Rows.NodeChecksSaid :=
  OpenClaim.holds_of_wide 3 Try.f3 rfl rfl rfl rfl rfl rfl rfl ⟨rfl, rfl, rfl, rfl, rfl⟩ rfl rfl rfl rfl rfl (by kernel_rfl) Try.func3 (by kernel_rfl)
    (of_decide_eq_true (by kernel_rfl)) (by unfold Func.isWrapper; first | (rw [if_pos (by decide +kernel)]; kernel_rfl) | (rw [if_neg (by decide +kernel)]; exact ⟨rfl, rfl⟩))
    (fun os started H enc _ => nodeChecks_lifted os started H enc)

set_option maxRecDepth 100000 in
theorem nodeFinds_lifted (os : Os) (started : os.Started) (H : Type) (enc : TypeId × Value → H) :
    ReturnsInHanded {} Try.checked os 4 .any (Rows.nodeFindsSpec.pre6 enc Try.prog Try.f4 Rows.nodeFindsRow.domain false) (Rows.nodeFindsSpec.post enc Try.prog Try.f4 false true false false) := by
  refine returnsInHanded_of_change (C := Try.checked) own started (by kernel_rfl) Try.func4
    (ChangeSpec.witness6 (enc := enc) (C := Try.checked) false ⟨#[], #[.agg #[.bool true, .slice none 0 0, .slice none 0 0], .int .i64 0], []⟩ 8 (by kernel_rfl) (by kernel_rfl) (by kernel_rfl) (by kernel_rfl)) ?_
  intro W base args ds gs before hval0 hW _ _
  have hval : ∀ (j : Nat) t v, Try.f4.params[j]? = some t → args[j]? = some v → Value.okWide Try.prog W .any base t v := hval0
  have hW0 := hW
  obtain ⟨p, q, hA0, hV, rfl, _, _⟩ := hW
  have hA : DataW.TrodAll enc Try.prog W 0 (fun _ => true) true Try.f4.params.toList args.toList ds p := hA0
  rw [Try.params4] at hA hval
  obtain ⟨v0, v1, d0, d1, p0, p1, rfl, rfl, rfl, h0, h1⟩ := trodAll_two hA
  obtain ⟨rfl, rfl⟩ := trodVars_none hV
  simp only [List.append_nil] at hW0
  have t0 : ∀ x ∈ p0, x.block < W.heap.size := fun x hx => by have := hW0.lt x (by simp [hx]); simpa using this
  obtain ⟨lf0, kv0, vv0, ks0, vs0, rfl, hk0, hv0⟩ := open_nd (hval 0 24 v0 rfl rfl) h0
  obtain ⟨i1, rfl, rfl, rfl, wi1⟩ := open_int Try.underlying3 (hval 1 3 v1 rfl rfl) h1
  refine (finds_c lf0 kv0 vv0 ks0 vs0 i1 W hk0 hv0).mono fun e W' hR => ?_
  obtain ⟨u, rfl, rfl, x⟩ : ∃ u, e = Ending.returned u ∧ u = .bool true ∧ Ext No W W' := by cases e <;> first | exact ⟨_, rfl, hR⟩ | exact hR.elim
  exact ⟨_, rfl, _, _, _, [], _, [], hW0, trodAll_mk1 (shut_bool Try.underlying4 true), trodAll_mk2 (again_nd h0 t0 x) (shut_int Try.underlying3 wi1), rfl, x.below.frame _, fun h => by cases h⟩

theorem nodeFinds_holds : Rows.NodeFindsSaid :=
  OpenClaim.holds_of_wide 4 Try.f4 rfl rfl rfl rfl rfl rfl rfl ⟨rfl, rfl, rfl, rfl, rfl⟩ rfl rfl rfl rfl rfl (by kernel_rfl) Try.func4 (by kernel_rfl)
    (of_decide_eq_true (by kernel_rfl)) (by unfold Func.isWrapper; first | (rw [if_pos (by decide +kernel)]; kernel_rfl) | (rw [if_neg (by decide +kernel)]; exact ⟨rfl, rfl⟩))
    (fun os started H enc _ => nodeFinds_lifted os started H enc)

set_option maxRecDepth 100000 in
theorem nodeChild_lifted (os : Os) (started : os.Started) (H : Type) (enc : TypeId × Value → H) :
    ReturnsInHanded {} Try.checked os 5 .any (Rows.nodeChildSpec.pre6 enc Try.prog Try.f5 Rows.nodeChildRow.domain false) (Rows.nodeChildSpec.post enc Try.prog Try.f5 false true false false) := by
  refine returnsInHanded_of_change (C := Try.checked) own started (by kernel_rfl) Try.func5
    (ChangeSpec.witness6 (enc := enc) (C := Try.checked) false ⟨#[], #[.agg #[.bool true, .slice none 0 0, .slice none 0 0], .int .i64 0], []⟩ 8 (by kernel_rfl) (by kernel_rfl) (by kernel_rfl) (by kernel_rfl)) ?_
  intro W base args ds gs before hval0 hW _ _
  have hval : ∀ (j : Nat) t v, Try.f5.params[j]? = some t → args[j]? = some v → Value.okWide Try.prog W .any base t v := hval0
  have hW0 := hW
  obtain ⟨p, q, hA0, hV, rfl, _, _⟩ := hW
  have hA : DataW.TrodAll enc Try.prog W 0 (fun _ => true) true Try.f5.params.toList args.toList ds p := hA0
  rw [Try.params5] at hA hval
  obtain ⟨v0, v1, d0, d1, p0, p1, rfl, rfl, rfl, h0, h1⟩ := trodAll_two hA
  obtain ⟨rfl, rfl⟩ := trodVars_none hV
  simp only [List.append_nil] at hW0
  have t0 : ∀ x ∈ p0, x.block < W.heap.size := fun x hx => by have := hW0.lt x (by simp [hx]); simpa using this
  obtain ⟨lf0, kv0, vv0, ks0, vs0, rfl, hk0, hv0⟩ := open_nd (hval 0 24 v0 rfl rfl) h0
  obtain ⟨i1, rfl, rfl, rfl, wi1⟩ := open_int Try.underlying3 (hval 1 3 v1 rfl rfl) h1
  refine (child_law_c lf0 kv0 vv0 ks0 vs0 i1 W hk0 hv0).mono fun e W' hR => ?_
  obtain ⟨u, rfl, rfl, x⟩ : ∃ u, e = Ending.returned u ∧ u = .bool true ∧ Ext No W W' := by cases e <;> first | exact ⟨_, rfl, hR⟩ | exact hR.elim
  exact ⟨_, rfl, _, _, _, [], _, [], hW0, trodAll_mk1 (shut_bool Try.underlying4 true), trodAll_mk2 (again_nd h0 t0 x) (shut_int Try.underlying3 wi1), rfl, x.below.frame _, fun h => by cases h⟩

theorem nodeChild_holds : Rows.NodeChildSaid :=
  OpenClaim.holds_of_wide 5 Try.f5 rfl rfl rfl rfl rfl rfl rfl ⟨rfl, rfl, rfl, rfl, rfl⟩ rfl rfl rfl rfl rfl (by kernel_rfl) Try.func5 (by kernel_rfl)
    (of_decide_eq_true (by kernel_rfl)) (by unfold Func.isWrapper; first | (rw [if_pos (by decide +kernel)]; kernel_rfl) | (rw [if_neg (by decide +kernel)]; exact ⟨rfl, rfl⟩))
    (fun os started H enc _ => nodeChild_lifted os started H enc)
end Go.Proofs.Yteehoppklgcggaa
