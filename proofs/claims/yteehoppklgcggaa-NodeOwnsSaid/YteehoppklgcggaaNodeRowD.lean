/-
  Rows of package node: the arguments read as lists, the walks' contracts told as rows. No condition.
-/
import Derived.Test.YteehoppklgcggaaRows
import Derived.Test.YteehoppklgcggaaNodeRow
import Derived.Test.YteehoppklgcggaaNodeJ
import Derived.SizedLaws
import Derived.ProofKit
import Derived.Lib.SmallJoins
namespace Go.Proofs.Yteehoppklgcggaa
open Go.ChangeShapes Go.WideShapes Go.ChangeAt Go.RowKit Go.Joins

theorem open_rd_sized {H : Type} {enc : TypeId × Value → H} {W : World} {fuel : Nat} {v : Value} {x : DataW H × List MemPlace} (h : DataW.trod enc Try.prog W 0 (fun _ => true) true fuel 22 [v] = some x)
    (hz : ∀ n ∈ x.1.weights Try.prog 22, n ≤ reachBytes) : ∃ xs, RdI v xs W ∧ xs.length * 8 ≤ 140737488351232 := by
  have hb : Try.prog.bytesOf 3 = 8 := by kernel_rfl
  rcases open_ints Try.underlying22 Try.underlying3 int_cells h with ⟨hcs, _⟩ | ⟨a, len, cap, zs, hcs, _, hl, hm, hz2, hx, hcell, _⟩
  · obtain ⟨xs, hxs⟩ := open_rd h
    simp only [List.cons.injEq, and_true] at hcs; subst hcs
    exact ⟨[], by simpa [RdI] using Rd.nil 1 W, by simp⟩
  · simp only [if_true] at hz2
    obtain ⟨xs, hxs⟩ := open_rd h
    refine ⟨xs, hxs, ?_⟩
    simp only [List.cons.injEq, and_true] at hcs
    obtain ⟨ao, c, e, _⟩ := hxs.opened
    rw [hcs] at e; cases e
    subst hx
    have := hz ((zs.take xs.length).length * 8 + (zs.drop xs.length).length * 8) (by simp [DataW.weights, Try.underlying22, hb, lits]; omega)
    simp [reachBytes] at this
    omega
theorem open_nd_sized {H : Type} {enc : TypeId × Value → H} {W : World} {base : Nat} {v : Value} {d : DataW H} {p : List MemPlace} (hv : Value.okWide Try.prog W .any base 24 v)
    (h : DataW.Trod enc Try.prog W 0 (fun _ => true) true 24 v d p) (hz : ∀ n ∈ d.weights Try.prog 24, n ≤ reachBytes) :
    ∃ lf kv vv ks vs, v = .agg #[.bool lf, kv, vv] ∧ RdI kv ks W ∧ RdI vv vs W ∧ ks.length * 8 ≤ 140737488351232 ∧ vs.length * 8 ≤ 140737488351232 := by
  obtain ⟨v0, v1, v2, y0, y1, y2, n, rfl, rfl, -, h0, h1, h2⟩ := open_agg3 Try.underlying24 (by kernel_rfl) nd_cells hv h
  obtain ⟨lf, hl, -⟩ := DataW.trod_bool Try.underlying4 h0
  simp only [List.cons.injEq, and_true] at hl; subst hl
  simp only [DataW.weights, Try.underlying24, DataW.weightsEach, List.map_cons, List.map_nil, List.mem_append] at hz
  obtain ⟨ks, hk, bk⟩ := open_rd_sized h1 (fun n hn => hz n (.inr (.inl hn)))
  obtain ⟨vs, hs, bv⟩ := open_rd_sized h2 (fun n hn => hz n (.inr (.inr (.inl hn))))
  exact ⟨lf, v1, v2, ks, vs, rfl, hk, hs, bk, bv⟩

set_option maxRecDepth 100000 in
theorem nodeOwns_lifted (os : Os) (started : os.Started) (H : Type) (enc : TypeId × Value → H) :
    ReturnsInHanded {} Try.checked os 8 .any (Rows.nodeOwnsSpec.pre6 enc Try.prog Try.f8 Rows.nodeOwnsRow.domain false) (Rows.nodeOwnsSpec.post enc Try.prog Try.f8 false true false false) := by
  refine returnsInHanded_of_change_sized (C := Try.checked) own started (by kernel_rfl) Try.func8
    (ChangeSpec.witness6 (enc := enc) (C := Try.checked) false ⟨#[], #[.agg #[.bool true, .slice none 0 0, .slice none 0 0], .int .i64 0, .int .i64 0], []⟩ 8 (by kernel_rfl) (by kernel_rfl) (by kernel_rfl) (by kernel_rfl)) ?_
  intro W base args ds gs before hval0 hW _ hsz0 _
  have hsz : (DataW.weightsEach Try.prog (Try.f8.params.toList ++ Rows.nodeOwnsSpec.plain.varTypes Try.prog) (ds ++ gs)).all (· ≤ reachBytes) = true := hsz0
  clear hsz0
  have hval : ∀ (j : Nat) t v, Try.f8.params[j]? = some t → args[j]? = some v → Value.okWide Try.prog W .any base t v := hval0
  have hW0 := hW
  obtain ⟨p, q, hA0, hV, rfl, _, _⟩ := hW
  have hA : DataW.TrodAll enc Try.prog W 0 (fun _ => true) true Try.f8.params.toList args.toList ds p := hA0
  rw [Try.params8] at hA hval hsz
  obtain ⟨v0, v1, v2, d0, d1, d2, p0, p1, p2, rfl, rfl, rfl, h0, h1, h2⟩ := trodAll_three hA
  obtain ⟨rfl, rfl⟩ := trodVars_none hV
  simp only [List.append_nil] at hW0
  have t0 : ∀ x ∈ p0, x.block < W.heap.size := fun x hx => by have := hW0.lt x (by simp [hx]); simpa using this
  obtain ⟨lf0, kv0, vv0, ks0, vs0, rfl, hk0, hv0, hbk0, hbv0⟩ := open_nd_sized (hval 0 24 v0 rfl rfl) h0 (by simpa [DataW.weightsEach] using fun x hx => List.all_eq_true.1 hsz x (by simp [DataW.weightsEach, hx]))
  obtain ⟨i1, rfl, rfl, rfl, wi1⟩ := open_int Try.underlying3 (hval 1 3 v1 rfl rfl) h1
  obtain ⟨i2, rfl, rfl, rfl, wi2⟩ := open_int Try.underlying3 (hval 2 3 v2 rfl rfl) h2
  refine (owns_c lf0 kv0 vv0 ks0 vs0 i1 i2 W hk0 hv0 hbk0 hbv0).mono fun e W' hR => ?_
  obtain ⟨u, rfl, rfl, x⟩ : ∃ u, e = Ending.returned u ∧ u = .bool true ∧ Ext No W W' := by cases e <;> first | exact ⟨_, rfl, hR⟩ | exact hR.elim
  exact ⟨_, rfl, _, _, _, [], _, [], hW0, trodAll_mk1 (shut_bool Try.underlying4 true), trodAll_mk3 (again_nd h0 t0 x) (shut_int Try.underlying3 wi1) (shut_int Try.underlying3 wi2), rfl, x.below.frame _, fun h => by cases h⟩

theorem nodeOwns_holds : Rows.NodeOwnsSaid :=
  OpenClaim.holds_of_wide 8 Try.f8 rfl rfl rfl rfl rfl rfl rfl ⟨rfl, rfl, rfl, rfl, rfl⟩ rfl rfl rfl rfl rfl (by kernel_rfl) Try.func8 (by kernel_rfl)
    (of_decide_eq_true (by kernel_rfl)) (by unfold Func.isWrapper; first | (rw [if_pos (by decide +kernel)]; kernel_rfl) | (rw [if_neg (by decide +kernel)]; exact ⟨rfl, rfl⟩))
    (fun os started H enc _ => nodeOwns_lifted os started H enc)
end Go.Proofs.Yteehoppklgcggaa
