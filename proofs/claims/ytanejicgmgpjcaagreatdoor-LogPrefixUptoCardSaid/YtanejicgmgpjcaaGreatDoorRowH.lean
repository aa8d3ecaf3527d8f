/-
  What rows of laws have in common: slices of ints and of operations, read. No condition.
-/
import Derived.Test.YtanejicgmgpjcaaGreatDoorCards
import Derived.Test.YtanejicgmgpjcaaGreatDoorTie
import Derived.Test.YtanejicgmgpjcaaGreatDoorLogZA
import Derived.DataReads
import Derived.ProofKit
import Derived.OpenShut
import Derived.Lib.SmallJoins
import Derived.Deep.DeepHandedRow
import Derived.Lib.LaidTab
set_option maxRecDepth 100000
namespace Go.Proofs.YtanejicgmgpjcaaGreatDoor
open Go.ChangeShapes Go.WideShapes Go.ChangeAt Go.RowKit Go.Joins

theorem own : ownKnob Tryz.prog.godebug = none := by kernel_rfl
theorem laidOut : laidOutB Tryz.prog = true := by kernel_rfl
theorem int_cells : Tryz.prog.cellsOf 3 = 1 := by kernel_rfl

/-- what a world's slice reads as is what the base part reads as -/
theorem cel_base {W : World} {b o : Nat} {v : Value} (hc : Cel b o v W) : ∀ h, base W h → celH h b o v := fun h hb => by
  unfold Cel World.cell? at hc
  cases hh : W.heap[b]? with
  | none => rw [hh] at hc; simp at hc
  | some o' =>
    rw [hh] at hc
    cases o' with
    | cells cs ty fr =>
      simp at hc
      have hlt : b < W.heap.size := by
        rcases Nat.lt_or_ge b W.heap.size with q | q
        · exact q
        · rw [Array.getElem?_eq_none q] at hh; cases hh
      exact ⟨cs, ty, fr, (hb b hlt).trans hh, hc⟩
    | _ => simp at hc
theorem rd_base {sz : Nat} {v : Value} {n : Nat} {xs : List Value} {W : World} (r : Rd sz v n xs W) : ∀ h, base W h → rdH sz v n xs h := fun h hb => by
  obtain ⟨ao, c, e, h1, h2, h3, h4⟩ := r
  exact ⟨ao, c, e, h1, h2, h3, fun j u hj => by
    obtain ⟨b, p, e', hc⟩ := h4 j u hj
    exact ⟨b, p, e', cel_base hc h hb⟩⟩

/-- a slice of ints, read: a list, and what of the reading's bulk is its own -/
theorem open_rdB {H : Type} {enc : TypeId × Value → H} {W : World} {fuel : Nat} {v : Value} {d : DataW H} {p : List MemPlace} (h : DataW.trod enc Tryz.prog W 0 (fun _ => true) true fuel 34 [v] = some (d, p)) : ∃ xs : List Int, Rd 1 v xs.length (xs.map (Value.int .i64)) W ∧ xs.length ≤ Rows.uptoBulk d := by
  have hall : ∀ (l : List Int), l.length ≤ Rows.uptoBulkAll (lits (H := H) .i64 l) := fun l => by
    induction l with
    | nil => simp
    | cons x l ih => simp only [lits, List.map_cons, Rows.uptoBulkAll, Rows.uptoBulk, List.length_cons] at ih ⊢; omega
  rcases open_ints Tryz.underlying34 Tryz.underlying3 int_cells h with ⟨hcs, hx⟩ | ⟨a, len, cap, zs, hcs, _, hl, hm, hz, hx, hcell, _⟩
  · simp only [List.cons.injEq, and_true] at hcs; subst hcs; exact ⟨[], by simpa using Rd.nil 1 W, by simp⟩
  · simp only [List.cons.injEq, and_true] at hcs; subst hcs
    simp only [if_true] at hz
    have hd : d = .slice (lits .i64 (zs.take len)) (lits .i64 (zs.drop len)) := by have := congrArg Prod.fst hx; simpa using this
    refine ⟨zs.take len, ⟨some a, cap, by simp [hz, Nat.min_eq_left hl], by simp [hz, Nat.min_eq_left hl, hl], (by unfold maxLen at hm; omega), by simp, fun j u hj => ?_⟩, ?_⟩
    · rw [List.getElem?_map] at hj
      obtain ⟨y, hy, rfl⟩ := Option.map_eq_some_iff.1 hj
      have hjl : j < len := by
        have := (List.getElem?_eq_some_iff.1 hy).1
        simp at this; omega
      have hy' : zs[j]? = some y := by rw [List.getElem?_take] at hy; simpa [hjl] using hy
      have hc := hcell j (by omega)
      rw [show zs.getD j 0 = y from by simp [List.getD, hy']] at hc
      obtain ⟨b, off, spot⟩ := a
      have hspot : spot = none := by
        have h0 := hcell 0 (by omega)
        simpa [Addr.add] using World.cell?_spot h0
      subst hspot
      exact ⟨b, off, rfl, by unfold Cel; rw [← Go.WideShapes.add_plain]; exact hc⟩
    · rw [hd]; have := hall (zs.take len); simp only [Rows.uptoBulk]; omega

/-- a call's contract, at a world -/
theorem Cn.run {P : Program} {f : FuncId} {args : List Value} {W : World} {u : Value} (h : Cn P f args [base W] (fun v Γ => v = u ∧ Γ = [base W])) : Calls P f args.toArray W (Ret fun v W' => v = u ∧ Ext No W W') := by
  refine Ret.mono (h W [] W (by simpa using Sep.start W)) ?_
  rintro v W' ⟨Γ, ⟨rfl, rfl⟩, H⟩
  exact ⟨rfl, Sep.done 0 H rfl⟩

/-- the laid variables' cells -/
def flatW : DataW Unit → List Value
  | .lit (.int k n) => [.int k n]
  | .agg parts => flatWs parts
  | _ => []
where flatWs : List (DataW Unit) → List Value
  | [] => []
  | d :: ds => flatW d ++ flatWs ds
def lay1 : Obj → Obj
  | .cells c t frozen => .cells (if c.size = 32 then (flatW Rows.laid_unicode_utf8_acceptRanges).toArray else (flatW Rows.laid_unicode_utf8_first).toArray) t frozen
  | o => o
noncomputable def laidWorld (os : Os) : World :=
  { World.holding Tryz.prog os ⟨#[], #[], []⟩ with heap := ((World.holding Tryz.prog os ⟨#[], #[], []⟩).heap.modify 0 lay1).modify 1 lay1 }
theorem op_cells : Tryz.prog.cellsOf 36 = 7 := by kernel_rfl
/-- a list out of what is known place by place -/
theorem exists_list {α : Type} (P : Nat → α → Prop) : ∀ n, (∀ i, i < n → ∃ a, P i a) → ∃ l : List α, l.length = n ∧ ∀ i a, l[i]? = some a → P i a
  | 0, _ => ⟨[], rfl, fun i a h => by simp at h⟩
  | n + 1, h => by
    obtain ⟨l, hl, hp⟩ := exists_list P n (fun i hi => h i (by omega))
    obtain ⟨a, ha⟩ := h n (by omega)
    refine ⟨l ++ [a], by simp [hl], fun i b hb => ?_⟩
    rcases Nat.lt_or_ge i n with q | q
    · rw [List.getElem?_append_left (by omega)] at hb; exact hp i b hb
    · rw [List.getElem?_append_right (by omega)] at hb
      obtain rfl : i = n := by have := (List.getElem?_eq_some_iff.1 hb).1; simp at this; omega
      simp [hl] at hb; subst hb; exact ha
/-- an operation, read -/
theorem open_op {H : Type} {enc : TypeId × Value → H} {W : World} {fuel : Nat} {cs : List Value} {d : DataW H} {p : List MemPlace} (h : DataW.trod enc Tryz.prog W 0 (fun _ => true) true fuel 36 cs = some (d, p)) :
    ∃ e : OpE, cs = OpE.cells e ∧ Rd 1 e.2.1 e.1.ns.length (e.1.ns.map (Value.int .i64)) W ∧ e.2.2.oneCell' = true ∧ e.1.ns.length ≤ Rows.uptoBulk d := by
  obtain ⟨xs, n, rfl, hx, hl, hxl, hf⟩ := DataW.trod_struct Tryz.underlying36 h
  rw [op_cells] at hl
  match cs, hl with
  | [c0, c1, c2, c3, c4, c5, c6], _ =>
    have f0 := hf 0 _ rfl
    have f1 := hf 1 _ rfl
    have f2 := hf 2 _ rfl
    have f3 := hf 3 _ rfl
    have f4 := hf 4 _ rfl
    have f5 := hf 5 _ rfl
    have f6 := hf 6 _ rfl
    match xs, hxl with
    | [y0, y1, y2, y3, y4, y5, y6], _ =>
      have k1 : Tryz.prog.cellsOf 34 = 1 := by kernel_rfl
      try dsimp only at f0
      try simp only [int_cells, k1, List.drop_zero, List.drop_succ_cons, List.take_succ_cons, List.take_zero, List.getElem?_cons_zero, List.getElem?_cons_succ] at f0
      try dsimp only at f1
      try simp only [int_cells, k1, List.drop_zero, List.drop_succ_cons, List.take_succ_cons, List.take_zero, List.getElem?_cons_zero, List.getElem?_cons_succ] at f1
      try dsimp only at f2
      try simp only [int_cells, k1, List.drop_zero, List.drop_succ_cons, List.take_succ_cons, List.take_zero, List.getElem?_cons_zero, List.getElem?_cons_succ] at f2
      try dsimp only at f3
      try simp only [int_cells, k1, List.drop_zero, List.drop_succ_cons, List.take_succ_cons, List.take_zero, List.getElem?_cons_zero, List.getElem?_cons_succ] at f3
      try dsimp only at f4
      try simp only [int_cells, k1, List.drop_zero, List.drop_succ_cons, List.take_succ_cons, List.take_zero, List.getElem?_cons_zero, List.getElem?_cons_succ] at f4
      try dsimp only at f5
      try simp only [int_cells, k1, List.drop_zero, List.drop_succ_cons, List.take_succ_cons, List.take_zero, List.getElem?_cons_zero, List.getElem?_cons_succ] at f5
      try dsimp only at f6
      try simp only [int_cells, k1, List.drop_zero, List.drop_succ_cons, List.take_succ_cons, List.take_zero, List.getElem?_cons_zero, List.getElem?_cons_succ] at f6
      obtain ⟨z0, e0, _, _⟩ := DataW.trod_int Tryz.underlying3 f0
      obtain ⟨z2, e2, _, _⟩ := DataW.trod_int Tryz.underlying3 f2
      obtain ⟨z3, e3, _, _⟩ := DataW.trod_int Tryz.underlying3 f3
      obtain ⟨z4, e4, _, _⟩ := DataW.trod_int Tryz.underlying3 f4
      obtain ⟨z5, e5, _, _⟩ := DataW.trod_int Tryz.underlying3 f5
      obtain ⟨d1, p1⟩ := y1
      obtain ⟨d6, p6⟩ := y6
      obtain ⟨ns, hr, hb⟩ := open_rdB (h := f1)
      obtain ⟨ks, hr6, _⟩ := open_rdB (h := f6)
      have g0 := congrArg (fun l => l.headD .nilFunc) e0
      try simp at g0
      subst g0
      have g2 := congrArg (fun l => l.headD .nilFunc) e2
      try simp at g2
      subst g2
      have g3 := congrArg (fun l => l.headD .nilFunc) e3
      try simp at g3
      subst g3
      have g4 := congrArg (fun l => l.headD .nilFunc) e4
      try simp at g4
      subst g4
      have g5 := congrArg (fun l => l.headD .nilFunc) e5
      try simp at g5
      subst g5
      refine ⟨(⟨z0, z2, z3, z4, z5, ns⟩, c1, c6), rfl, hr, ?_, ?_⟩
      · obtain ⟨ao, c, e, _⟩ := hr6
        rw [show c6 = _ from e]; rfl
      · have hd := congrArg Prod.fst hx
        try simp only [List.map_cons, List.map_nil] at hd
        rw [show d = _ from hd]
        simp only [Rows.uptoBulk, Rows.uptoBulkAll]
        have : ns.length ≤ Rows.uptoBulk d1 := hb
        omega

theorem opC_len (es : List OpE) : (opC es).length = es.length * 7 := by
  induction es with
  | nil => rfl
  | cons e es ih => simp only [opC, List.flatMap_cons, List.length_append] at ih ⊢; rw [ih]; simp [OpE.cells]; omega
theorem opC_inv : ∀ (es : List OpE) (k : Nat) (u : Value), (opC es)[k]? = some u → ∃ e, es[k / 7]? = some e ∧ (OpE.cells e)[k % 7]? = some u
  | [], k, u, h => by simp [opC] at h
  | x :: es, k, u, h => by
    have hl : (OpE.cells x).length = 7 := rfl
    simp only [opC, List.flatMap_cons] at h
    rcases Nat.lt_or_ge k 7 with q | q
    · rw [List.getElem?_append_left (by omega)] at h
      exact ⟨x, by rw [Nat.div_eq_of_lt q]; rfl, by rw [Nat.mod_eq_of_lt q]; exact h⟩
    · rw [List.getElem?_append_right (by omega), hl] at h
      obtain ⟨e, h1, h2⟩ := opC_inv es (k - 7) u h
      refine ⟨e, ?_, ?_⟩
      · rw [show k / 7 = (k - 7) / 7 + 1 from by omega]; simpa using h1
      · rw [show k % 7 = (k - 7) % 7 from by omega]; exact h2
theorem bulk_mem {H : Type} {d : DataW H} {l : List (DataW H)} (h : d ∈ l) : Rows.uptoBulk d ≤ Rows.uptoBulkAll l := by
  induction l with
  | nil => cases h
  | cons x r ih =>
    simp only [Rows.uptoBulkAll]
    rcases List.mem_cons.1 h with e | e
    · subst e; omega
    · have := ih e; omega
theorem bulk_one {H : Type} (d : DataW H) : 1 ≤ Rows.uptoBulk d := by
  cases d with
  | lit l => cases l <;> simp [Rows.uptoBulk]
  | nil => simp [Rows.uptoBulk]
  | ptr d => simp [Rows.uptoBulk]
  | slice elems spare => simp [Rows.uptoBulk]
  | agg parts => simp [Rows.uptoBulk]
  | iface t d => simp [Rows.uptoBulk]
  | map entries => simp [Rows.uptoBulk]
  | held h => simp [Rows.uptoBulk]
theorem bulk_len {H : Type} (l : List (DataW H)) : l.length ≤ Rows.uptoBulkAll l := by
  induction l with
  | nil => simp
  | cons x r ih => have := bulk_one x; simp only [Rows.uptoBulkAll, List.length_cons]; omega
/-- the slice of operations, read -/
theorem open_ops {H : Type} {enc : TypeId × Value → H} {W : World} {fuel : Nat} {v : Value} {d : DataW H} {p : List MemPlace} (h : DataW.trod enc Tryz.prog W 0 (fun _ => true) true fuel 22 [v] = some (d, p)) :
    ∃ es : List OpE, Rd 7 v es.length (opC es) W ∧ (∀ e ∈ es, Rd 1 e.2.1 e.1.ns.length (e.1.ns.map (Value.int .i64)) W ∧ e.2.2.oneCell' = true ∧ e.1.ns.length ≤ Rows.uptoBulk d) ∧ es.length ≤ Rows.uptoBulk d := by
  rcases DataW.trod_slice Tryz.underlying22 h with ⟨hcs, _⟩ | ⟨a, len, cap, elems, rest, n, rfl, hcs, hx, _, hlc, hcm, hel, hg, _, _⟩
  · simp only [List.cons.injEq, and_true] at hcs; subst hcs
    exact ⟨[], by simpa [opC] using Rd.nil 7 W, fun e he => absurd he (by simp), by simp⟩
  · simp only [List.cons.injEq, and_true] at hcs; subst hcs
    have hd : d = .slice (elems.map (·.1)) (rest.map (·.1)) := by have := congrArg Prod.fst hx; simpa using this
    obtain ⟨es, hes, hP⟩ := exists_list (fun i (e : OpE) => (∀ j, j < 7 → W.cell? ((a.add (i * 7)).add j) = (OpE.cells e)[j]?) ∧ Rd 1 e.2.1 e.1.ns.length (e.1.ns.map (Value.int .i64)) W ∧ e.2.2.oneCell' = true ∧ e.1.ns.length ≤ Rows.uptoBulk d) len (fun i hi => by
      have hb := hg i hi
      rw [op_cells] at hb
      obtain ⟨y, hy⟩ : ∃ y, elems[i]? = some y := ⟨_, List.getElem?_eq_getElem (by omega)⟩
      rw [hy, Option.bind_eq_some_iff] at hb
      obtain ⟨cs, hc, ht⟩ := hb
      obtain ⟨e, rfl, h1, h2, h3⟩ := open_op (d := y.1) (p := y.2) ht
      refine ⟨e, (World.cells?_some hc).2.2, h1, h2, Nat.le_trans h3 ?_⟩
      rw [hd]
      have := bulk_mem (l := elems.map (·.1)) (List.mem_map.2 ⟨y, List.mem_of_getElem? hy, rfl⟩)
      simp only [Rows.uptoBulk]; omega)
    refine ⟨es, ⟨some a, cap, by rw [hes], by omega, (by unfold maxLen at hcm; omega), opC_len es, fun k u hk => ?_⟩, fun e he => ?_, ?_⟩
    · obtain ⟨e, h1, h2⟩ := opC_inv es k u hk
      have hc := (hP _ e h1).1 (k % 7) (Nat.mod_lt _ (by omega))
      rw [h2] at hc
      obtain ⟨b, off, spot⟩ := a
      have hspot : spot = none := by
        have hlt := (List.getElem?_eq_some_iff.1 h1).1
        obtain ⟨e0, he0⟩ : ∃ e0, es[0]? = some e0 := ⟨_, List.getElem?_eq_getElem (by omega)⟩
        have hc0 := (hP _ e0 he0).1 0 (by omega)
        have h0 : W.cell? ⟨b, off, spot⟩ = some (.int .i64 e0.1.k0) := by simpa [Addr.add, OpE.cells] using hc0
        exact World.cell?_spot h0
      subst hspot
      refine ⟨b, off, rfl, ?_⟩
      unfold Cel
      have e2 : ((Addr.add ⟨b, off, none⟩ (k / 7 * 7)).add (k % 7)) = ⟨b, off + k, none⟩ := by
        rw [Go.WideShapes.add_plain, Go.WideShapes.add_plain]
        congr 1; omega
      rw [← e2]; exact hc
    · obtain ⟨i, hi⟩ := List.getElem?_of_mem he
      exact (hP i e hi).2
    · rw [hes, hd]
      have := bulk_len (elems.map (·.1))
      simp only [Rows.uptoBulk, List.length_map] at this ⊢; omega

end Go.Proofs.YtanejicgmgpjcaaGreatDoor
