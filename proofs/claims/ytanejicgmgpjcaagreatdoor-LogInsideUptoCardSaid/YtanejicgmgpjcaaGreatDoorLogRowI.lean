/-
  Row of the law LogInside. No condition.
-/
import Derived.Test.YtanejicgmgpjcaaGreatDoorRowH
import Derived.Test.YtanejicgmgpjcaaGreatDoorLogZG
set_option maxRecDepth 100000
namespace Go.Proofs.YtanejicgmgpjcaaGreatDoor
open Go.ChangeShapes Go.WideShapes Go.ChangeAt Go.RowKit Go.Joins
theorem ins_met (os : Os) : laidMet Tryz.prog Rows.logInsideUptoRow.laid ((laidWorld os).forCall (fun _ _ => 0) ⟨#[], #[.int .i64 0, .slice none 0 0], []⟩).memory :=
  laidMet_of_run' 8 (by kernel_rfl) (by kernel_rfl)
theorem ins_reads (os : Os) {H : Type} (enc : TypeId × Value → H) : ∃ places, DataW.whole enc Tryz.prog ((laidWorld os).forCall (fun _ _ => 0) ⟨#[], #[.int .i64 0, .slice none 0 0], []⟩).memory Tryz.f3.params.toList Rows.logInsideSpec.vars false #[Value.int .i64 0, .slice none 0 0].toList 8 = some ([.lit (.int .i64 0), .nil], [], places) :=
  ⟨[], by kernel_rfl⟩
theorem ins_contract (H : Type) (enc : TypeId × Value → H) (W : World) (base : Nat) (args : Array Value) (ds gs : List (DataW H)) (before : List MemPlace)
    (hval : ∀ (j : Nat) t v, Tryz.f3.params[j]? = some t → args[j]? = some v → Value.okWide Tryz.prog W .any base t v)
    (hW : DataW.Whole enc Tryz.prog Tryz.f3.params.toList Rows.logInsideSpec.vars false W args.toList ds gs before) (hk : Rows.uptoSmall H (ds ++ gs) = true) :
    Calls Tryz.prog 3 args W fun e W' => ∃ v, e = .returned v ∧ Rows.logInsideSpec.post enc Tryz.prog Tryz.f3 false true false false W args v W' := by
  have hW0 := hW
  obtain ⟨p, q, hA0, hV, rfl, _, _⟩ := hW
  have hA : DataW.TrodAll enc Tryz.prog W 0 (fun _ => true) true Tryz.f3.params.toList args.toList ds p := hA0
  rw [Tryz.params3] at hA hval
  obtain ⟨v0, v1, d0, d1, p0, p1, rfl, rfl, rfl, h0, h1⟩ := trodAll_two hA
  obtain ⟨rfl, rfl⟩ := trodVars_none hV
  simp only [List.append_nil] at hW0 hk
  have t1 : ∀ x ∈ p1, x.block < W.heap.size := fun x hx => by have := hW0.lt x (by simp [hx]); simpa using this
  have hb : Rows.uptoBulkAll [d0, d1] ≤ 1048576 := of_decide_eq_true hk
  simp only [Rows.uptoBulkAll] at hb
  obtain ⟨i0, rfl, rfl, rfl, wi0⟩ := open_int Tryz.underlying3 (hval 0 3 v0 rfl rfl) h0
  obtain ⟨ao1, l1, c1, rfl⟩ := okWide_slice Tryz.underlying22 (hval 1 22 v1 rfl rfl)
  obtain ⟨fuel, hf⟩ := id h1
  obtain ⟨es, hr, hes, hlen⟩ := open_ops (h := hf)
  refine (Cn.run (logInside_c i0 _ es (by omega) (YtanejicgmgpjcaaGreatDoor.base W) (fun h hh => ⟨rd_base hr h hh, fun e he => ⟨rd_base (hes e he).1 h hh, (hes e he).2.1, by have := (hes e he).2.2; omega⟩⟩))).mono fun e W' hR => ?_
  obtain ⟨u, rfl, rfl, x⟩ : ∃ u, e = Ending.returned u ∧ u = .bool true ∧ Ext No W W' := by cases e <;> first | exact ⟨_, rfl, hR⟩ | exact hR.elim
  exact ⟨_, rfl, _, _, _, [], _, [], hW0, trodAll_mk1 (shut_bool Tryz.underlying4 true), trodAll_mk2 (shut_int Tryz.underlying3 wi0) (Below.trod laidOut (by kernel_rfl) (of_decide_eq_true (by kernel_rfl)) h1 x.below t1), rfl, x.below.frame _, fun h => by cases h⟩
theorem ins_lifted (os : Os) (started : os.Started) (H : Type) (enc : TypeId × Value → H) (F : Stop.Interp) :
    ReturnsInHanded {} Tryz.checked os 3 .any ((Rows.OpenSpec.upto Rows.logInsideSpec).preRow enc Tryz.prog Tryz.f3 Rows.logInsideUptoRow.domain false Rows.logInsideUptoRow.laid) (((Rows.OpenSpec.upto Rows.logInsideSpec).at F).post enc Tryz.prog Tryz.f3 false true false false) := by
  obtain ⟨places, hx⟩ := ins_reads os enc
  refine returnsInHanded_of_row (C := Tryz.checked) (s := Rows.OpenSpec.upto Rows.logInsideSpec) own started (by kernel_rfl) Tryz.func3
    (witness_row_at (enc := enc) (C := Tryz.checked) false (laidWorld os) #[.int .i64 0, .slice none 0 0] rfl (by kernel_rfl) (by kernel_rfl) (by kernel_rfl)
      (OpenSpec.preRow_of_cond 8 hx (by kernel_rfl) (fun k hk => by cases hk; kernel_rfl) (by kernel_rfl) (ins_met os))) ?_
  intro W base args ds gs before hval hW _ hcond _ _ _ _
  exact ins_contract H enc W base args ds gs before hval hW (hcond _ rfl)
theorem ins_said : Rows.LogInsideUptoSaid :=
  OpenClaim.holds_of_cond 3 Tryz.f3 rfl rfl rfl rfl rfl rfl rfl ⟨rfl, rfl, rfl, rfl, rfl⟩ rfl rfl rfl rfl rfl (by kernel_rfl) Tryz.func3 (by kernel_rfl)
    (of_decide_eq_true (by kernel_rfl)) (by unfold Func.isWrapper; first | (rw [if_pos (by decide +kernel)]; kernel_rfl) | (rw [if_neg (by decide +kernel)]; exact ⟨rfl, rfl⟩))
    (fun os started H enc _ F => by rw [OpenClaim.pre_eq_preRow]; exact ins_lifted os started H enc F)
theorem ins_plain (f : FuncId) (fn : Func) (hf : Tryz.pinned.checked.prog.funcNamed "polder/polderlaw05.LogInside" = some f) (hfn : Tryz.pinned.checked.prog.funcs[f]? = some fn) :
    false = Tryz.pinned.checked.prog.looks [] ∧ ∀ (j : Nat) t, fn.params[j]? = some t → Tryz.pinned.checked.prog.wantsStandIn t = false := by
  obtain rfl : f = 3 := Option.some.inj ((show Tryz.prog.funcNamed "polder/polderlaw05.LogInside" = some 3 by kernel_rfl).symm.trans hf) |>.symm
  obtain rfl : fn = Tryz.f3 := (Option.some.inj (Tryz.func3.symm.trans hfn)).symm
  refine ⟨by kernel_rfl, fun j t ht => ?_⟩
  rw [Tryz.params3] at ht
  have hm := Array.mem_of_getElem? ht
  simp at hm
  rcases hm with rfl | rfl
  · exact (show Tryz.prog.wantsStandIn 3 = false by kernel_rfl)
  · exact (show Tryz.prog.wantsStandIn 22 = false by kernel_rfl)
/-- LogInside -/
theorem logInside_holds : Rows.LogInsideUptoCardSaid :=
  Claim7.holds_tied_plain_at .later [] _ _ _ _ ins_said (fun _ h => by cases h) (by kernel_rfl) (fun _ h => by cases h) logInsideUpto_row_tie rfl ⟨rfl, rfl⟩ (by kernel_rfl) rfl ins_plain (by kernel_rfl)
end Go.Proofs.YtanejicgmgpjcaaGreatDoor
