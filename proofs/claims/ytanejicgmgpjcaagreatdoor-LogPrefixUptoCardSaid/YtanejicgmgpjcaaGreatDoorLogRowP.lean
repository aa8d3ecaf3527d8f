/-
  Row of the law LogPrefix. No condition.
-/
import Derived.Test.YtanejicgmgpjcaaGreatDoorRowH
import Derived.Test.YtanejicgmgpjcaaGreatDoorLogZJ
set_option maxRecDepth 100000
namespace Go.Proofs.YtanejicgmgpjcaaGreatDoor
open Go.ChangeShapes Go.WideShapes Go.ChangeAt Go.RowKit Go.Joins
/-- an operation, read -/
theorem open_opP {H : Type} {enc : TypeId × Value → H} {W : World} {fuel : Nat} {cs : List Value} {d : DataW H} {p : List MemPlace} (h : DataW.trod enc Tryz.prog W 0 (fun _ => true) true fuel 36 cs = some (d, p)) :
    ∃ e : OpE × List Int, cs = OpE.cells e.1 ∧ Rd 1 e.1.2.1 e.1.1.ns.length (e.1.1.ns.map (Value.int .i64)) W ∧ Rd 1 e.1.2.2 e.2.length (e.2.map (Value.int .i64)) W ∧ e.1.1.ns.length ≤ Rows.uptoBulk d := by
  obtain ⟨xs, n, rfl, hx, hl, hxl, hf⟩ := DataW.trod_struct Tryz.underlying36 h
  rw [op_cells] at hl
  match cs, hl with
  | [c0, c1, c2, c3, c4, c5, c6], _ =>
    have f0 := hf 0 _ rfl
    have f1 := hf 1 _ rfl
    have f2 := hf 2 _ rfl
    have f3 := hf 3 _ rfl
    have f4 := hf 4 _ rfl
    have f5 := hf 5 _ rfl
    have f6 := hf 6 _ rfl
    match xs, hxl with
    | [y0, y1, y2, y3, y4, y5, y6], _ =>
      have k1 : Tryz.prog.cellsOf 34 = 1 := by kernel_rfl
      try dsimp only at f0
      try simp only [int_cells, k1, List.drop_zero, List.drop_succ_cons, List.take_succ_cons, List.take_zero, List.getElem?_cons_zero, List.getElem?_cons_succ] at f0
      try dsimp only at f1
      try simp only [int_cells, k1, List.drop_zero, List.drop_succ_cons, List.take_succ_cons, List.take_zero, List.getElem?_cons_zero, List.getElem?_cons_succ] at f1
      try dsimp only at f2
      try simp only [int_cells, k1, List.drop_zero, List.drop_succ_cons, List.take_succ_cons, List.take_zero, List.getElem?_cons_zero, List.getElem?_cons_succ] at f2
      try dsimp only at f3
      try simp only [int_cells, k1, List.drop_zero, List.drop_succ_cons, List.take_succ_cons, List.take_zero, List.getElem?_cons_zero, List.getElem?_cons_succ] at f3
      try dsimp only at f4
      try simp only [int_cells, k1, List.drop_zero, List.drop_succ_cons, List.take_succ_cons, List.take_zero, List.getElem?_cons_zero, List.getElem?_cons_succ] at f4
      try dsimp only at f5
      try simp only [int_cells, k1, List.drop_zero, List.drop_succ_cons, List.take_succ_cons, List.take_zero, List.getElem?_cons_zero, List.getElem?_cons_succ] at f5
      try dsimp only at f6
      try simp only [int_cells, k1, List.drop_zero, List.drop_succ_cons, List.take_succ_cons, List.take_zero, List.getElem?_cons_zero, List.getElem?_cons_succ] at f6
      obtain ⟨z0, e0, _, _⟩ := DataW.trod_int Tryz.underlying3 f0
      obtain ⟨z2, e2, _, _⟩ := DataW.trod_int Tryz.underlying3 f2
      obtain ⟨z3, e3, _, _⟩ := DataW.trod_int Tryz.underlying3 f3
      obtain ⟨z4, e4, _, _⟩ := DataW.trod_int Tryz.underlying3 f4
      obtain ⟨z5, e5, _, _⟩ := DataW.trod_int Tryz.underlying3 f5
      obtain ⟨d1, p1⟩ := y1
      obtain ⟨d6, p6⟩ := y6
      obtain ⟨ns, hr, hb⟩ := open_rdB (h := f1)
      obtain ⟨ks, hr6, _⟩ := open_rdB (h := f6)
      have g0 := congrArg (fun l => l.headD .nilFunc) e0
      try simp at g0
      subst g0
      have g2 := congrArg (fun l => l.headD .nilFunc) e2
      try simp at g2
      subst g2
      have g3 := congrArg (fun l => l.headD .nilFunc) e3
      try simp at g3
      subst g3
      have g4 := congrArg (fun l => l.headD .nilFunc) e4
      try simp at g4
      subst g4
      have g5 := congrArg (fun l => l.headD .nilFunc) e5
      try simp at g5
      subst g5
      refine ⟨((⟨z0, z2, z3, z4, z5, ns⟩, c1, c6), ks), rfl, hr, hr6, ?_⟩
      · have hd := congrArg Prod.fst hx
        try simp only [List.map_cons, List.map_nil] at hd
        rw [show d = _ from hd]
        simp only [Rows.uptoBulk, Rows.uptoBulkAll]
        have : ns.length ≤ Rows.uptoBulk d1 := hb
        omega

/-- the slice of operations, read -/
theorem open_opsP {H : Type} {enc : TypeId × Value → H} {W : World} {fuel : Nat} {v : Value} {d : DataW H} {p : List MemPlace} (h : DataW.trod enc Tryz.prog W 0 (fun _ => true) true fuel 22 [v] = some (d, p)) :
    ∃ es : List (OpE × List Int), Rd 7 v es.length (opC (es.map Prod.fst)) W ∧ (∀ e ∈ es, Rd 1 e.1.2.1 e.1.1.ns.length (e.1.1.ns.map (Value.int .i64)) W ∧ Rd 1 e.1.2.2 e.2.length (e.2.map (Value.int .i64)) W ∧ e.1.1.ns.length ≤ Rows.uptoBulk d) ∧ es.length ≤ Rows.uptoBulk d := by
  rcases DataW.trod_slice Tryz.underlying22 h with ⟨hcs, _⟩ | ⟨a, len, cap, elems, rest, n, rfl, hcs, hx, _, hlc, hcm, hel, hg, _, _⟩
  · simp only [List.cons.injEq, and_true] at hcs; subst hcs
    exact ⟨[], by simpa [opC] using Rd.nil 7 W, fun e he => absurd he (by simp), by simp⟩
  · simp only [List.cons.injEq, and_true] at hcs; subst hcs
    have hd : d = .slice (elems.map (·.1)) (rest.map (·.1)) := by have := congrArg Prod.fst hx; simpa using this
    obtain ⟨es, hes, hP⟩ := exists_list (fun i (e : OpE × List Int) => (∀ j, j < 7 → W.cell? ((a.add (i * 7)).add j) = (OpE.cells e.1)[j]?) ∧ Rd 1 e.1.2.1 e.1.1.ns.length (e.1.1.ns.map (Value.int .i64)) W ∧ Rd 1 e.1.2.2 e.2.length (e.2.map (Value.int .i64)) W ∧ e.1.1.ns.length ≤ Rows.uptoBulk d) len (fun i hi => by
      have hb := hg i hi
      rw [op_cells] at hb
      obtain ⟨y, hy⟩ : ∃ y, elems[i]? = some y := ⟨_, List.getElem?_eq_getElem (by omega)⟩
      rw [hy, Option.bind_eq_some_iff] at hb
      obtain ⟨cs, hc, ht⟩ := hb
      obtain ⟨e, rfl, h1, h2, h3⟩ := open_opP (d := y.1) (p := y.2) ht
      refine ⟨e, (World.cells?_some hc).2.2, h1, h2, Nat.le_trans h3 ?_⟩
      rw [hd]
      have := bulk_mem (l := elems.map (·.1)) (List.mem_map.2 ⟨y, List.mem_of_getElem? hy, rfl⟩)
      simp only [Rows.uptoBulk]; omega)
    refine ⟨es, ⟨some a, cap, by rw [hes], by omega, (by unfold maxLen at hcm; omega), by rw [opC_len, List.length_map], fun k u hk => ?_⟩, fun e he => ?_, ?_⟩
    · obtain ⟨e0, h1', h2⟩ := opC_inv _ k u hk
      rw [List.getElem?_map, Option.map_eq_some_iff] at h1'
      obtain ⟨e, h1, rfl⟩ := h1'
      have hc := (hP _ e h1).1 (k % 7) (Nat.mod_lt _ (by omega))
      rw [h2] at hc
      obtain ⟨b, off, spot⟩ := a
      have hspot : spot = none := by
        have hlt := (List.getElem?_eq_some_iff.1 h1).1
        obtain ⟨e0, he0⟩ : ∃ e0, es[0]? = some e0 := ⟨_, List.getElem?_eq_getElem (by omega)⟩
        have hc0 := (hP _ e0 he0).1 0 (by omega)
        have h0 : W.cell? ⟨b, off, spot⟩ = some (.int .i64 e0.1.1.k0) := by simpa [Addr.add, OpE.cells] using hc0
        exact World.cell?_spot h0
      subst hspot
      refine ⟨b, off, rfl, ?_⟩
      unfold Cel
      have e2 : ((Addr.add ⟨b, off, none⟩ (k / 7 * 7)).add (k % 7)) = ⟨b, off + k, none⟩ := by
        rw [Go.WideShapes.add_plain, Go.WideShapes.add_plain]
        congr 1; omega
      rw [← e2]; exact hc
    · obtain ⟨i, hi⟩ := List.getElem?_of_mem he
      exact (hP i e hi).2
    · rw [hes, hd]
      have := bulk_len (elems.map (·.1))
      simp only [Rows.uptoBulk, List.length_map] at this ⊢; omega

theorem pre_met (os : Os) : laidMet Tryz.prog Rows.logPrefixUptoRow.laid ((laidWorld os).forCall (fun _ _ => 0) ⟨#[], #[.int .i64 0, .slice none 0 0], []⟩).memory :=
  laidMet_of_run' 8 (by kernel_rfl) (by kernel_rfl)
theorem pre_reads (os : Os) {H : Type} (enc : TypeId × Value → H) : ∃ places, DataW.whole enc Tryz.prog ((laidWorld os).forCall (fun _ _ => 0) ⟨#[], #[.int .i64 0, .slice none 0 0], []⟩).memory Tryz.f4.params.toList Rows.logPrefixSpec.vars false #[Value.int .i64 0, .slice none 0 0].toList 8 = some ([.lit (.int .i64 0), .nil], [], places) :=
  ⟨[], by kernel_rfl⟩
theorem pre_contract (H : Type) (enc : TypeId × Value → H) (W : World) (base : Nat) (args : Array Value) (ds gs : List (DataW H)) (before : List MemPlace)
    (hval : ∀ (j : Nat) t v, Tryz.f4.params[j]? = some t → args[j]? = some v → Value.okWide Tryz.prog W .any base t v)
    (hW : DataW.Whole enc Tryz.prog Tryz.f4.params.toList Rows.logPrefixSpec.vars false W args.toList ds gs before) (hk : Rows.uptoSmall H (ds ++ gs) = true) :
    Calls Tryz.prog 4 args W fun e W' => ∃ v, e = .returned v ∧ Rows.logPrefixSpec.post enc Tryz.prog Tryz.f4 false true false false W args v W' := by
  have hW0 := hW
  obtain ⟨p, q, hA0, hV, rfl, _, _⟩ := hW
  have hA : DataW.TrodAll enc Tryz.prog W 0 (fun _ => true) true Tryz.f4.params.toList args.toList ds p := hA0
  rw [Tryz.params4] at hA hval
  obtain ⟨v0, v1, d0, d1, p0, p1, rfl, rfl, rfl, h0, h1⟩ := trodAll_two hA
  obtain ⟨rfl, rfl⟩ := trodVars_none hV
  simp only [List.append_nil] at hW0 hk
  have t1 : ∀ x ∈ p1, x.block < W.heap.size := fun x hx => by have := hW0.lt x (by simp [hx]); simpa using this
  have hb : Rows.uptoBulkAll [d0, d1] ≤ 1048576 := of_decide_eq_true hk
  simp only [Rows.uptoBulkAll] at hb
  obtain ⟨i0, rfl, rfl, rfl, wi0⟩ := open_int Tryz.underlying3 (hval 0 3 v0 rfl rfl) h0
  obtain ⟨ao1, l1, c1, rfl⟩ := okWide_slice Tryz.underlying22 (hval 1 22 v1 rfl rfl)
  obtain ⟨fuel, hf⟩ := id h1
  obtain ⟨es, hr, hes, hlen⟩ := open_opsP (h := hf)
  refine (Cn.run (logPrefix_c i0 _ es (by omega) (YtanejicgmgpjcaaGreatDoor.base W) (fun h hh => ⟨rd_base hr h hh, fun e he => ⟨rd_base (hes e he).1 h hh, rd_base (hes e he).2.1 h hh, by have := (hes e he).2.2; omega⟩⟩))).mono fun e W' hR => ?_
  obtain ⟨u, rfl, rfl, x⟩ : ∃ u, e = Ending.returned u ∧ u = .bool true ∧ Ext No W W' := by cases e <;> first | exact ⟨_, rfl, hR⟩ | exact hR.elim
  exact ⟨_, rfl, _, _, _, [], _, [], hW0, trodAll_mk1 (shut_bool Tryz.underlying4 true), trodAll_mk2 (shut_int Tryz.underlying3 wi0) (Below.trod laidOut (by kernel_rfl) (of_decide_eq_true (by kernel_rfl)) h1 x.below t1), rfl, x.below.frame _, fun h => by cases h⟩
theorem pre_lifted (os : Os) (started : os.Started) (H : Type) (enc : TypeId × Value → H) (F : Stop.Interp) :
    ReturnsInHanded {} Tryz.checked os 4 .any ((Rows.OpenSpec.upto Rows.logPrefixSpec).preRow enc Tryz.prog Tryz.f4 Rows.logPrefixUptoRow.domain false Rows.logPrefixUptoRow.laid) (((Rows.OpenSpec.upto Rows.logPrefixSpec).at F).post enc Tryz.prog Tryz.f4 false true false false) := by
  obtain ⟨places, hx⟩ := pre_reads os enc
  refine returnsInHanded_of_row (C := Tryz.checked) (s := Rows.OpenSpec.upto Rows.logPrefixSpec) own started (by kernel_rfl) Tryz.func4
    (witness_row_at (enc := enc) (C := Tryz.checked) false (laidWorld os) #[.int .i64 0, .slice none 0 0] rfl (by kernel_rfl) (by kernel_rfl) (by kernel_rfl)
      (OpenSpec.preRow_of_cond 8 hx (by kernel_rfl) (fun k hk => by cases hk; kernel_rfl) (by kernel_rfl) (pre_met os))) ?_
  intro W base args ds gs before hval hW _ hcond _ _ _ _
  exact pre_contract H enc W base args ds gs before hval hW (hcond _ rfl)
theorem pre_said : Rows.LogPrefixUptoSaid :=
  OpenClaim.holds_of_cond 4 Tryz.f4 rfl rfl rfl rfl rfl rfl rfl ⟨rfl, rfl, rfl, rfl, rfl⟩ rfl rfl rfl rfl rfl (by kernel_rfl) Tryz.func4 (by kernel_rfl)
    (of_decide_eq_true (by kernel_rfl)) (by unfold Func.isWrapper; first | (rw [if_pos (by decide +kernel)]; kernel_rfl) | (rw [if_neg (by decide +kernel)]; exact ⟨rfl, rfl⟩))
    (fun os started H enc _ F => by rw [OpenClaim.pre_eq_preRow]; exact pre_lifted os started H enc F)
theorem pre_plain (f : FuncId) (fn : Func) (hf : Tryz.pinned.checked.prog.funcNamed "polder/polderlaw05.LogPrefix" = some f) (hfn : Tryz.pinned.checked.prog.funcs[f]? = some fn) :
    false = Tryz.pinned.checked.prog.looks [] ∧ ∀ (j : Nat) t, fn.params[j]? = some t → Tryz.pinned.checked.prog.wantsStandIn t = false := by
  obtain rfl : f = 4 := Option.some.inj ((show Tryz.prog.funcNamed "polder/polderlaw05.LogPrefix" = some 4 by kernel_rfl).symm.trans hf) |>.symm
  obtain rfl : fn = Tryz.f4 := (Option.some.inj (Tryz.func4.symm.trans hfn)).symm
  refine ⟨by kernel_rfl, fun j t ht => ?_⟩
  rw [Tryz.params4] at ht
  have hm := Array.mem_of_getElem? ht
  simp at hm
  rcases hm with rfl | rfl
  · exact (show Tryz.prog.wantsStandIn 3 = false by kernel_rfl)
  · exact (show Tryz.prog.wantsStandIn 22 = false by kernel_rfl)
/-- LogPrefix -/
theorem logPrefix_holds : Rows.LogPrefixUptoCardSaid :=
  Claim7.holds_tied_plain_at .later [] _ _ _ _ pre_said (fun _ h => by cases h) (by kernel_rfl) (fun _ h => by cases h) logPrefixUpto_row_tie rfl ⟨rfl, rfl⟩ (by kernel_rfl) rfl pre_plain (by kernel_rfl)
end Go.Proofs.YtanejicgmgpjcaaGreatDoor
