/-
  Rows of the log's laws, seat of the door: LogBack. No condition.
-/
import Derived.Test.YtanejicgmgpjcaaDoorLogRow
import Derived.DataReads
set_option maxRecDepth 100000
namespace Go.Proofs.YtanejicgmgpjcaaDoor
open Go.ChangeShapes Go.WideShapes Go.ChangeAt Go.RowKit Go.Joins

theorem op_cells : Tryd.prog.cellsOf 39 = 7 := by kernel_rfl
/-- a list out of what is known place by place -/
theorem exists_list {α : Type} (P : Nat → α → Prop) : ∀ n, (∀ i, i < n → ∃ a, P i a) → ∃ l : List α, l.length = n ∧ ∀ i a, l[i]? = some a → P i a
  | 0, _ => ⟨[], rfl, fun i a h => by simp at h⟩
  | n + 1, h => by
    obtain ⟨l, hl, hp⟩ := exists_list P n (fun i hi => h i (by omega))
    obtain ⟨a, ha⟩ := h n (by omega)
    refine ⟨l ++ [a], by simp [hl], fun i b hb => ?_⟩
    rcases Nat.lt_or_ge i n with q | q
    · rw [List.getElem?_append_left (by omega)] at hb; exact hp i b hb
    · rw [List.getElem?_append_right (by omega)] at hb
      obtain rfl : i = n := by have := (List.getElem?_eq_some_iff.1 hb).1; simp at this; omega
      simp [hl] at hb; subst hb; exact ha
/-- an operation, read -/
theorem open_op {H : Type} {enc : TypeId × Value → H} {W : World} {fuel : Nat} {cs : List Value} {d : DataW H} {p : List MemPlace} (h : DataW.trod enc Tryd.prog W 0 (fun _ => true) true fuel 39 cs = some (d, p)) :
    ∃ e : OpE, cs = OpE.cells e ∧ Rd 1 e.2.1 e.1.ns.length (e.1.ns.map (Value.int .i64)) W ∧ e.2.2.oneCell' = true ∧ e.1.ns.length ≤ Rows.uptoBulk d := by
  obtain ⟨xs, n, rfl, hx, hl, hxl, hf⟩ := DataW.trod_struct Tryd.underlying39 h
  rw [op_cells] at hl
  match cs, hl with
  | [c0, c1, c2, c3, c4, c5, c6], _ =>
    have f0 := hf 0 _ rfl
    have f1 := hf 1 _ rfl
    have f2 := hf 2 _ rfl
    have f3 := hf 3 _ rfl
    have f4 := hf 4 _ rfl
    have f5 := hf 5 _ rfl
    have f6 := hf 6 _ rfl
    match xs, hxl with
    | [y0, y1, y2, y3, y4, y5, y6], _ =>
      have k1 : Tryd.prog.cellsOf 37 = 1 := by kernel_rfl
      try dsimp only at f0
      try simp only [int_cells, k1, List.drop_zero, List.drop_succ_cons, List.take_succ_cons, List.take_zero, List.getElem?_cons_zero, List.getElem?_cons_succ] at f0
      try dsimp only at f1
      try simp only [int_cells, k1, List.drop_zero, List.drop_succ_cons, List.take_succ_cons, List.take_zero, List.getElem?_cons_zero, List.getElem?_cons_succ] at f1
      try dsimp only at f2
      try simp only [int_cells, k1, List.drop_zero, List.drop_succ_cons, List.take_succ_cons, List.take_zero, List.getElem?_cons_zero, List.getElem?_cons_succ] at f2
      try dsimp only at f3
      try simp only [int_cells, k1, List.drop_zero, List.drop_succ_cons, List.take_succ_cons, List.take_zero, List.getElem?_cons_zero, List.getElem?_cons_succ] at f3
      try dsimp only at f4
      try simp only [int_cells, k1, List.drop_zero, List.drop_succ_cons, List.take_succ_cons, List.take_zero, List.getElem?_cons_zero, List.getElem?_cons_succ] at f4
      try dsimp only at f5
      try simp only [int_cells, k1, List.drop_zero, List.drop_succ_cons, List.take_succ_cons, List.take_zero, List.getElem?_cons_zero, List.getElem?_cons_succ] at f5
      try dsimp only at f6
      try simp only [int_cells, k1, List.drop_zero, List.drop_succ_cons, List.take_succ_cons, List.take_zero, List.getElem?_cons_zero, List.getElem?_cons_succ] at f6
      obtain ⟨z0, e0, _, _⟩ := DataW.trod_int Tryd.underlying3 f0
      obtain ⟨z2, e2, _, _⟩ := DataW.trod_int Tryd.underlying3 f2
      obtain ⟨z3, e3, _, _⟩ := DataW.trod_int Tryd.underlying3 f3
      obtain ⟨z4, e4, _, _⟩ := DataW.trod_int Tryd.underlying3 f4
      obtain ⟨z5, e5, _, _⟩ := DataW.trod_int Tryd.underlying3 f5
      obtain ⟨d1, p1⟩ := y1
      obtain ⟨d6, p6⟩ := y6
      obtain ⟨ns, hr, hb⟩ := open_rdB (h := f1)
      obtain ⟨ks, hr6, _⟩ := open_rdB (h := f6)
      have g0 := congrArg (fun l => l.headD .nilFunc) e0
      try simp at g0
      subst g0
      have g2 := congrArg (fun l => l.headD .nilFunc) e2
      try simp at g2
      subst g2
      have g3 := congrArg (fun l => l.headD .nilFunc) e3
      try simp at g3
      subst g3
      have g4 := congrArg (fun l => l.headD .nilFunc) e4
      try simp at g4
      subst g4
      have g5 := congrArg (fun l => l.headD .nilFunc) e5
      try simp at g5
      subst g5
      refine ⟨(⟨z0, z2, z3, z4, z5, ns⟩, c1, c6), rfl, hr, ?_, ?_⟩
      · obtain ⟨ao, c, e, _⟩ := hr6
        rw [show c6 = _ from e]; rfl
      · have hd := congrArg Prod.fst hx
        try simp only [List.map_cons, List.map_nil] at hd
        rw [show d = _ from hd]
        simp only [Rows.uptoBulk, Rows.uptoBulkAll]
        have : ns.length ≤ Rows.uptoBulk d1 := hb
        omega

theorem opC_len (es : List OpE) : (opC es).length = es.length * 7 := by
  induction es with
  | nil => rfl
  | cons e es ih => simp only [opC, List.flatMap_cons, List.length_append] at ih ⊢; rw [ih]; simp [OpE.cells]; omega
theorem opC_inv : ∀ (es : List OpE) (k : Nat) (u : Value), (opC es)[k]? = some u → ∃ e, es[k / 7]? = some e ∧ (OpE.cells e)[k % 7]? = some u
  | [], k, u, h => by simp [opC] at h
  | x :: es, k, u, h => by
    have hl : (OpE.cells x).length = 7 := rfl
    simp only [opC, List.flatMap_cons] at h
    rcases Nat.lt_or_ge k 7 with q | q
    · rw [List.getElem?_append_left (by omega)] at h
      exact ⟨x, by rw [Nat.div_eq_of_lt q]; rfl, by rw [Nat.mod_eq_of_lt q]; exact h⟩
    · rw [List.getElem?_append_right (by omega), hl] at h
      obtain ⟨e, h1, h2⟩ := opC_inv es (k - 7) u h
      refine ⟨e, ?_, ?_⟩
      · rw [show k / 7 = (k - 7) / 7 + 1 from by omega]; simpa using h1
      · rw [show k % 7 = (k - 7) % 7 from by omega]; exact h2
theorem bulk_mem {H : Type} {d : DataW H} {l : List (DataW H)} (h : d ∈ l) : Rows.uptoBulk d ≤ Rows.uptoBulkAll l := by
  induction l with
  | nil => cases h
  | cons x r ih =>
    simp only [Rows.uptoBulkAll]
    rcases List.mem_cons.1 h with e | e
    · subst e; omega
    · have := ih e; omega
theorem bulk_one {H : Type} (d : DataW H) : 1 ≤ Rows.uptoBulk d := by
  cases d with
  | lit l => cases l <;> simp [Rows.uptoBulk]
  | nil => simp [Rows.uptoBulk]
  | ptr d => simp [Rows.uptoBulk]
  | slice elems spare => simp [Rows.uptoBulk]
  | agg parts => simp [Rows.uptoBulk]
  | iface t d => simp [Rows.uptoBulk]
  | map entries => simp [Rows.uptoBulk]
  | held h => simp [Rows.uptoBulk]
theorem bulk_len {H : Type} (l : List (DataW H)) : l.length ≤ Rows.uptoBulkAll l := by
  induction l with
  | nil => simp
  | cons x r ih => have := bulk_one x; simp only [Rows.uptoBulkAll, List.length_cons]; omega
/-- the slice of operations, read -/
theorem open_ops {H : Type} {enc : TypeId × Value → H} {W : World} {fuel : Nat} {v : Value} {d : DataW H} {p : List MemPlace} (h : DataW.trod enc Tryd.prog W 0 (fun _ => true) true fuel 22 [v] = some (d, p)) :
    ∃ es : List OpE, Rd 7 v es.length (opC es) W ∧ (∀ e ∈ es, Rd 1 e.2.1 e.1.ns.length (e.1.ns.map (Value.int .i64)) W ∧ e.2.2.oneCell' = true ∧ e.1.ns.length ≤ Rows.uptoBulk d) ∧ es.length ≤ Rows.uptoBulk d := by
  rcases DataW.trod_slice Tryd.underlying22 h with ⟨hcs, _⟩ | ⟨a, len, cap, elems, rest, n, rfl, hcs, hx, _, hlc, hcm, hel, hg, _, _⟩
  · simp only [List.cons.injEq, and_true] at hcs; subst hcs
    exact ⟨[], by simpa [opC] using Rd.nil 7 W, fun e he => absurd he (by simp), by simp⟩
  · simp only [List.cons.injEq, and_true] at hcs; subst hcs
    have hd : d = .slice (elems.map (·.1)) (rest.map (·.1)) := by have := congrArg Prod.fst hx; simpa using this
    obtain ⟨es, hes, hP⟩ := exists_list (fun i (e : OpE) => (∀ j, j < 7 → W.cell? ((a.add (i * 7)).add j) = (OpE.cells e)[j]?) ∧ Rd 1 e.2.1 e.1.ns.length (e.1.ns.map (Value.int .i64)) W ∧ e.2.2.oneCell' = true ∧ e.1.ns.length ≤ Rows.uptoBulk d) len (fun i hi => by
      have hb := hg i hi
      rw [op_cells] at hb
      obtain ⟨y, hy⟩ : ∃ y, elems[i]? = some y := ⟨_, List.getElem?_eq_getElem (by omega)⟩
      rw [hy, Option.bind_eq_some_iff] at hb
      obtain ⟨cs, hc, ht⟩ := hb
      obtain ⟨e, rfl, h1, h2, h3⟩ := open_op (d := y.1) (p := y.2) ht
      refine ⟨e, (World.cells?_some hc).2.2, h1, h2, Nat.le_trans h3 ?_⟩
      rw [hd]
      have := bulk_mem (l := elems.map (·.1)) (List.mem_map.2 ⟨y, List.mem_of_getElem? hy, rfl⟩)
      simp only [Rows.uptoBulk]; omega)
    refine ⟨es, ⟨some a, cap, by rw [hes], by omega, (by unfold maxLen at hcm; omega), opC_len es, fun k u hk => ?_⟩, fun e he => ?_, ?_⟩
    · obtain ⟨e, h1, h2⟩ := opC_inv es k u hk
      have hc := (hP _ e h1).1 (k % 7) (Nat.mod_lt _ (by omega))
      rw [h2] at hc
      obtain ⟨b, off, spot⟩ := a
      have hspot : spot = none := by
        have hlt := (List.getElem?_eq_some_iff.1 h1).1
        obtain ⟨e0, he0⟩ : ∃ e0, es[0]? = some e0 := ⟨_, List.getElem?_eq_getElem (by omega)⟩
        have hc0 := (hP _ e0 he0).1 0 (by omega)
        have h0 : W.cell? ⟨b, off, spot⟩ = some (.int .i64 e0.1.k0) := by simpa [Addr.add, OpE.cells] using hc0
        exact World.cell?_spot h0
      subst hspot
      refine ⟨b, off, rfl, ?_⟩
      unfold Cel
      have e2 : ((Addr.add ⟨b, off, none⟩ (k / 7 * 7)).add (k % 7)) = ⟨b, off + k, none⟩ := by
        rw [Go.WideShapes.add_plain, Go.WideShapes.add_plain]
        congr 1; omega
      rw [← e2]; exact hc
    · obtain ⟨i, hi⟩ := List.getElem?_of_mem he
      exact (hP i e hi).2
    · rw [hes, hd]
      have := bulk_len (elems.map (·.1))
      simp only [Rows.uptoBulk, List.length_map] at this ⊢; omega

theorem back_met (os : Os) : laidMet Tryd.prog Rows.logBackUptoRow.laid ((laidWorld os).forCall (fun _ _ => 0) ⟨#[], #[.int .i64 0, .slice none 0 0], []⟩).memory :=
  laidMet_of_run' 8 (by kernel_rfl) (by kernel_rfl)
theorem back_reads (os : Os) {H : Type} (enc : TypeId × Value → H) : ∃ places, DataW.whole enc Tryd.prog ((laidWorld os).forCall (fun _ _ => 0) ⟨#[], #[.int .i64 0, .slice none 0 0], []⟩).memory Tryd.f3.params.toList Rows.logBackSpec.vars false #[Value.int .i64 0, .slice none 0 0].toList 8 = some ([.lit (.int .i64 0), .nil], [], places) :=
  ⟨[], by kernel_rfl⟩
theorem back_contract (H : Type) (enc : TypeId × Value → H) (W : World) (base : Nat) (args : Array Value) (ds gs : List (DataW H)) (before : List MemPlace)
    (hval : ∀ (j : Nat) t v, Tryd.f3.params[j]? = some t → args[j]? = some v → Value.okWide Tryd.prog W .any base t v)
    (hW : DataW.Whole enc Tryd.prog Tryd.f3.params.toList Rows.logBackSpec.vars false W args.toList ds gs before) (hk : Rows.uptoSmall H (ds ++ gs) = true) :
    Calls Tryd.prog 3 args W fun e W' => ∃ v, e = .returned v ∧ Rows.logBackSpec.post enc Tryd.prog Tryd.f3 false true false false W args v W' := by
  have hW0 := hW
  obtain ⟨p, q, hA0, hV, rfl, _, _⟩ := hW
  have hA : DataW.TrodAll enc Tryd.prog W 0 (fun _ => true) true Tryd.f3.params.toList args.toList ds p := hA0
  rw [Tryd.params3] at hA hval
  obtain ⟨v0, v1, d0, d1, p0, p1, rfl, rfl, rfl, h0, h1⟩ := trodAll_two hA
  obtain ⟨rfl, rfl⟩ := trodVars_none hV
  simp only [List.append_nil] at hW0 hk
  have t1 : ∀ x ∈ p1, x.block < W.heap.size := fun x hx => by have := hW0.lt x (by simp [hx]); simpa using this
  have hb : Rows.uptoBulkAll [d0, d1] ≤ 1048576 := of_decide_eq_true hk
  simp only [Rows.uptoBulkAll] at hb
  obtain ⟨i0, rfl, rfl, rfl, wi0⟩ := open_int Tryd.underlying3 (hval 0 3 v0 rfl rfl) h0
  obtain ⟨ao1, l1, c1, rfl⟩ := okWide_slice Tryd.underlying22 (hval 1 22 v1 rfl rfl)
  obtain ⟨fuel, hf⟩ := id h1
  obtain ⟨es, hr, hes, hlen⟩ := open_ops (h := hf)
  refine (Cn.run (logBack_c i0 _ es (by omega) (YtanejicgmgpjcaaDoor.base W) (fun h hh => ⟨rd_base hr h hh, fun e he => ⟨rd_base (hes e he).1 h hh, (hes e he).2.1, by have := (hes e he).2.2; omega⟩⟩))).mono fun e W' hR => ?_
  obtain ⟨u, rfl, rfl, x⟩ : ∃ u, e = Ending.returned u ∧ u = .bool true ∧ Ext No W W' := by cases e <;> first | exact ⟨_, rfl, hR⟩ | exact hR.elim
  exact ⟨_, rfl, _, _, _, [], _, [], hW0, trodAll_mk1 (shut_bool Tryd.underlying4 true), trodAll_mk2 (shut_int Tryd.underlying3 wi0) (Below.trod laidOut (by kernel_rfl) (of_decide_eq_true (by kernel_rfl)) h1 x.below t1), rfl, x.below.frame _, fun h => by cases h⟩
theorem back_lifted (os : Os) (started : os.Started) (H : Type) (enc : TypeId × Value → H) (F : Stop.Interp) :
    ReturnsInHanded {} Tryd.checked os 3 .any ((Rows.OpenSpec.upto Rows.logBackSpec).preRow enc Tryd.prog Tryd.f3 Rows.logBackUptoRow.domain false Rows.logBackUptoRow.laid) (((Rows.OpenSpec.upto Rows.logBackSpec).at F).post enc Tryd.prog Tryd.f3 false true false false) := by
  obtain ⟨places, hx⟩ := back_reads os enc
  refine returnsInHanded_of_row (C := Tryd.checked) (s := Rows.OpenSpec.upto Rows.logBackSpec) own started (by kernel_rfl) Tryd.func3
    (witness_row_at (enc := enc) (C := Tryd.checked) false (laidWorld os) #[.int .i64 0, .slice none 0 0] rfl (by kernel_rfl) (by kernel_rfl) (by kernel_rfl)
      (OpenSpec.preRow_of_cond 8 hx (by kernel_rfl) (fun k hk => by cases hk; kernel_rfl) (by kernel_rfl) (back_met os))) ?_
  intro W base args ds gs before hval hW _ hcond _ _ _ _
  exact back_contract H enc W base args ds gs before hval hW (hcond _ rfl)
theorem back_said : Rows.LogBackUptoSaid :=
  OpenClaim.holds_of_cond 3 Tryd.f3 rfl rfl rfl rfl rfl rfl rfl ⟨rfl, rfl, rfl, rfl, rfl⟩ rfl rfl rfl rfl rfl (by kernel_rfl) Tryd.func3 (by kernel_rfl)
    (of_decide_eq_true (by kernel_rfl)) (by unfold Func.isWrapper; first | (rw [if_pos (by decide +kernel)]; kernel_rfl) | (rw [if_neg (by decide +kernel)]; exact ⟨rfl, rfl⟩))
    (fun os started H enc _ F => by rw [OpenClaim.pre_eq_preRow]; exact back_lifted os started H enc F)
theorem back_plain (f : FuncId) (fn : Func) (hf : Tryd.pinned.checked.prog.funcNamed "polder/polderlaw05.LogBack" = some f) (hfn : Tryd.pinned.checked.prog.funcs[f]? = some fn) :
    false = Tryd.pinned.checked.prog.looks [] ∧ ∀ (j : Nat) t, fn.params[j]? = some t → Tryd.pinned.checked.prog.wantsStandIn t = false := by
  obtain rfl : f = 3 := Option.some.inj ((show Tryd.prog.funcNamed "polder/polderlaw05.LogBack" = some 3 by kernel_rfl).symm.trans hf) |>.symm
  obtain rfl : fn = Tryd.f3 := (Option.some.inj (Tryd.func3.symm.trans hfn)).symm
  refine ⟨by kernel_rfl, fun j t ht => ?_⟩
  rw [Tryd.params3] at ht
  have hm := Array.mem_of_getElem? ht
  simp at hm
  rcases hm with rfl | rfl
  · exact (show Tryd.prog.wantsStandIn 3 = false by kernel_rfl)
  · exact (show Tryd.prog.wantsStandIn 22 = false by kernel_rfl)
/-- LogBack -/
theorem logBack_holds : Rows.LogBackUptoCardSaid :=
  Claim7.holds_tied_plain_at .later [] _ _ _ _ back_said (fun _ h => by cases h) (by kernel_rfl) (fun _ h => by cases h) logBackUpto_row_tie rfl ⟨rfl, rfl⟩ (by kernel_rfl) rfl back_plain (by kernel_rfl)
end Go.Proofs.YtanejicgmgpjcaaDoor
