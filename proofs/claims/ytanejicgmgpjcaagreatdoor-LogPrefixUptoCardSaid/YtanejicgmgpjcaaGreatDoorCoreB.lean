/-
  What worlds share (Ext), and the operations of a region one by one. Over any program. No condition.
-/
import Derived.Test.YtanejicgmgpjcaaGreatDoorCoreA
namespace Go.Proofs.YtanejicgmgpjcaaGreatDoor
open Go.RowKit

/-! ## Worlds -/
/-- From w on to w': the blocks of w outside F are as they were. -/
structure Ext (F : Nat → Prop) (w w' : World) : Prop where
  os : w'.os = w.os
  tape : w'.tape = w.tape
  output : w'.output = w.output
  size : w.heap.size ≤ w'.heap.size
  block : ∀ k, k < w.heap.size → ¬ F k → w'.heap[k]? = w.heap[k]?

def No : Nat → Prop := fun _ => False

theorem Ext.refl (F : Nat → Prop) (w : World) : Ext F w w := ⟨rfl, rfl, rfl, Nat.le_refl _, fun _ _ _ => rfl⟩
theorem Ext.trans {F : Nat → Prop} {a b c : World} (h : Ext F a b) (k : Ext F b c) : Ext F a c :=
  ⟨k.os.trans h.os, k.tape.trans h.tape, k.output.trans h.output, Nat.le_trans h.size k.size, fun i hi hf => (k.block i (Nat.lt_of_lt_of_le hi h.size) hf).trans (h.block i hi hf)⟩
theorem Ext.mono {F F' : Nat → Prop} {w w' : World} (h : Ext F w w') (hF : ∀ k, k < w.heap.size → F k → F' k) : Ext F' w w' :=
  ⟨h.os, h.tape, h.output, h.size, fun k hk hf => h.block k hk (fun q => hf (hF k hk q))⟩
theorem Ext.no {F : Nat → Prop} {w w' : World} (h : Ext No w w') : Ext F w w' := h.mono fun _ _ q => q.elim
/-- what was written lay beyond a -/
theorem Ext.trans_new {F : Nat → Prop} {a b c : World} (h : Ext No a b) (k : Ext F b c) (hF : ∀ i, F i → a.heap.size ≤ i) : Ext No a c :=
  ⟨k.os.trans h.os, k.tape.trans h.tape, k.output.trans h.output, Nat.le_trans h.size k.size, fun i hi hf => (k.block i (Nat.lt_of_lt_of_le hi h.size) (fun q => by have := hF i q; omega)).trans (h.block i hi hf)⟩
theorem Ext.trans_newF {F F' : Nat → Prop} {a b c : World} (h : Ext F a b) (k : Ext F' b c) (hF : ∀ i, F' i → a.heap.size ≤ i) : Ext F a c :=
  ⟨k.os.trans h.os, k.tape.trans h.tape, k.output.trans h.output, Nat.le_trans h.size k.size, fun i hi hf => (k.block i (Nat.lt_of_lt_of_le hi h.size) (fun q => by have := hF i q; omega)).trans (h.block i hi hf)⟩
theorem Ext.below {w w' : World} (h : Ext No w w') : Below w.heap.size w w' := ⟨h.os, h.tape, h.output, h.size, fun k hk => h.block k hk (fun q => q)⟩
theorem Ext.of_below {w w' : World} (h : Below w.heap.size w w') : Ext No w w' := ⟨h.os, h.tape, h.output, h.size, fun k hk _ => h.block k hk⟩
theorem Ext.of_grown {w w' : World} {row : Option Nat} (h : w.grownBy w' row) : Ext (fun k => some k = row) w w' := ⟨h.os, h.tape, h.output, h.size, fun k hk hf => h.block k hk hf⟩
theorem Ext.of_grown_none {w w' : World} (h : w.grownBy w' none) : Ext No w w' := (Ext.of_grown h).mono fun _ _ q => by cases q
theorem Ext.drew {w w' : World} {F : Nat → Prop} (h : Ext F w w') : Ext F w w'.drew := ⟨h.os, h.tape, h.output, h.size, h.block⟩
theorem Ext.drawn (F : Nat → Prop) (w : World) : Ext F w { w with drawn := w.drawn + 1 } := ⟨rfl, rfl, rfl, Nat.le_refl _, fun _ _ _ => rfl⟩

/-- a block of cells -/
def Blk (b : Nat) (cs : List Value) (ty : TypeId) (w : World) : Prop := w.heap[b]? = some (.cells cs.toArray ty (0, 0))
/-- a cell -/
def Cel (b o : Nat) (v : Value) (w : World) : Prop := w.cell? ⟨b, o, none⟩ = some v

theorem lt_of_get {w : World} {b : Nat} {o : Obj} (h : w.heap[b]? = some o) : b < w.heap.size := by
  rcases Nat.lt_or_ge b w.heap.size with h' | h'
  · exact h'
  · rw [Array.getElem?_eq_none h'] at h; cases h
theorem Blk.lt {b : Nat} {cs : List Value} {ty : TypeId} {w : World} (h : Blk b cs ty w) : b < w.heap.size := lt_of_get h
theorem Cel.lt {b o : Nat} {v : Value} {w : World} (h : Cel b o v w) : b < w.heap.size := by
  unfold Cel World.cell? at h
  rcases Nat.lt_or_ge b w.heap.size with h' | h'
  · exact h'
  · simp [Array.getElem?_eq_none h'] at h
theorem Blk.cel {b : Nat} {cs : List Value} {ty : TypeId} {w : World} (h : Blk b cs ty w) (o : Nat) {v : Value} (hv : cs[o]? = some v) : Cel b o v w := by
  unfold Cel World.cell?
  have h' : w.heap[b]? = some (.cells cs.toArray ty (0, 0)) := h
  simp [h', hv]
theorem Blk.free {b : Nat} {cs : List Value} {ty : TypeId} {w : World} (h : Blk b cs ty w) (o : Nat) : w.frozen? ⟨b, o, none⟩ = false := by
  unfold World.frozen?
  have h' : w.heap[b]? = some (.cells cs.toArray ty (0, 0)) := h
  simp [h']
theorem Blk.ext {F : Nat → Prop} {b : Nat} {cs : List Value} {ty : TypeId} {w w' : World} (h : Blk b cs ty w) (x : Ext F w w') (hf : ¬ F b) : Blk b cs ty w' :=
  (x.block b h.lt hf).trans h
theorem Cel.ext {F : Nat → Prop} {b o : Nat} {v : Value} {w w' : World} (h : Cel b o v w) (x : Ext F w w') (hf : ¬ F b) : Cel b o v w' :=
  (World.cell?_of_block (w := w) (w' := w') (a := ⟨b, o, none⟩) (x.block b h.lt hf)).trans h
theorem Blk.ext0 {b : Nat} {cs : List Value} {ty : TypeId} {w w' : World} (h : Blk b cs ty w) (x : Ext No w w') : Blk b cs ty w' := h.ext x fun q => q
theorem Cel.ext0 {b o : Nat} {v : Value} {w w' : World} (h : Cel b o v w) (x : Ext No w w') : Cel b o v w' := h.ext x fun q => q
theorem no_no {b : Nat} : ¬ No b := fun h => h

/-! ## What an operation does -/
/-- In every world of C the operation has the value v, and leaves the world alone. -/
def Does (P : Program) (C : World → Prop) (o : Oper) (a : Act) (v : Value) : Prop := ∀ w, C w → (execOp a.eval o).run P w = .ok (.value v) w

/-- The same, from every frame that shows L. -/
def DoesL (P : Program) (C : World → Prop) (n : Nat) (ds : List Deferred) (L : List (Nat × Value)) (o : Oper) (v : Value) : Prop := ∀ a, Fr n ds L a → Does P C o a v

/-- The operation comes to a value and a world of which R holds. -/
def Goes (P : Program) (o : Oper) (a : Act) (w : World) (R : Value → World → Prop) : Prop := ∃ v w', (execOp a.eval o).run P w = .ok (.value v) w' ∧ R v w'
/-- The operation (a store) comes to a world of which R holds. -/
def Puts (P : Program) (o : Oper) (a : Act) (w : World) (R : World → Prop) : Prop := ∃ w', (execOp a.eval o).run P w = .ok .skip w' ∧ R w'

def GoesL (P : Program) (n : Nat) (ds : List Deferred) (L : List (Nat × Value)) (o : Oper) (w : World) (R : Value → World → Prop) : Prop := ∀ a, Fr n ds L a → Goes P o a w R
def PutsL (P : Program) (n : Nat) (ds : List Deferred) (L : List (Nat × Value)) (o : Oper) (w : World) (R : World → Prop) : Prop := ∀ a, Fr n ds L a → Puts P o a w R

def wantL (ops : List Oper) (L : List (Nat × Value)) : Option (Nat × Bool) → Bool
  | none => true
  | some (j, b) => match (ops[j]?).bind (·.dst) with
    | some t => match look L t with
      | some (.bool c) => (match c, b with | true, true => true | false, false => true | _, _ => false)
      | _ => false
    | none => false
def skipL (ops : List Oper) (L : List (Nat × Value)) : Option (Nat × Bool) → Bool
  | none => false
  | some (j, b) => match (ops[j]?).bind (·.dst) with
    | some t => match look L t with
      | some (.bool c) => (match c, b with | true, false => true | false, true => true | _, _ => false)
      | some (.tuple _) => true
      | _ => false
    | none => false

theorem wantL_ok {ops : List Oper} {L : List (Nat × Value)} {n : Nat} {ds : List Deferred} {a : Act} {o : Oper} (hF : Fr n ds L a) (h : wantL ops L o.guard = true) : Region.wanted o (yielded ops.toArray a.tmps) = true := by
  unfold Region.wanted
  cases hg : o.guard with
  | none => rfl
  | some g =>
    obtain ⟨j, b⟩ := g
    rw [hg] at h
    simp only [wantL] at h
    simp only [yielded, List.getElem?_toArray]
    cases ht : (ops[j]?).bind (·.dst) with
    | none => rw [ht] at h; cases h
    | some t =>
      rw [ht] at h
      simp only at h
      cases hl : look L t with
      | none => rw [hl] at h; cases h
      | some v =>
        rw [hl] at h
        have hv := hF.get t v hl
        cases v <;> simp at h
        rename_i c
        simp only [Option.bind_some, hv]
        cases c <;> cases b <;> simp at h ⊢
theorem skipL_ok {ops : List Oper} {L : List (Nat × Value)} {n : Nat} {ds : List Deferred} {a : Act} {o : Oper} (hF : Fr n ds L a) (h : skipL ops L o.guard = true) : Region.wanted o (yielded ops.toArray a.tmps) = false := by
  unfold Region.wanted
  cases hg : o.guard with
  | none => rw [hg] at h; cases h
  | some g =>
    obtain ⟨j, b⟩ := g
    rw [hg] at h
    simp only [skipL] at h
    simp only [yielded, List.getElem?_toArray]
    cases ht : (ops[j]?).bind (·.dst) with
    | none => rw [ht] at h; cases h
    | some t =>
      rw [ht] at h
      simp only at h
      cases hl : look L t with
      | none => rw [hl] at h; cases h
      | some v =>
        rw [hl] at h
        have hv := hF.get t v hl
        simp only [Option.bind_some, hv]
        cases v <;> simp at h ⊢
        rename_i c
        cases c <;> cases b <;> simp at h ⊢

section steps
variable {P : Program} {ops : List Oper} {Q : Exit → Act → World → Prop} {a : Act} {w : World} {rest : List Oper} {o : Oper} {n d : Nat} {ds : List Deferred} {L : List (Nat × Value)} {v : Value}

theorem here {p : World → Prop} {w : World} (h : p w) : ∀ w', w' = w → p w' := fun w' e => by subst e; exact h

/-- one operation of a plain region -/
theorem s_do (hw : wantL ops L o.guard = true) (hd : o.dst = some d) (hlt : Nat.blt d n = true) (hdo : DoesL P (· = w) n ds L o v) (K : ∀ a', Fr n ds ((d, v) :: L) a' → wpList P ops.toArray Q rest a' w) : ∀ a, Fr n ds L a → wpList P ops.toArray Q (o :: rest) a w := by
  intro a hF
  unfold wpList
  rw [if_pos (wantL_ok hF hw)]
  left
  unfold Oper.wp
  rw [hdo a hF w rfl, Oper.upon_value, hd]
  exact K _ (hF.put d v hlt)
theorem s_skip (hw : skipL ops L o.guard = true) (hd : o.dst = some d) (hlt : Nat.blt d n = true) (K : ∀ a', Fr n ds ((d, undef) :: L) a' → wpList P ops.toArray Q rest a' w) : ∀ a, Fr n ds L a → wpList P ops.toArray Q (o :: rest) a w := by
  intro a hF
  unfold wpList
  rw [if_neg (by rw [skipL_ok hF hw]; exact Bool.false_ne_true), hd]
  exact K _ (hF.put d undef hlt)
theorem s_skip0 (hw : skipL ops L o.guard = true) (hd : o.dst = none) (K : ∀ a, Fr n ds L a → wpList P ops.toArray Q rest a w) : ∀ a, Fr n ds L a → wpList P ops.toArray Q (o :: rest) a w := by
  intro a hF
  unfold wpList
  rw [if_neg (by rw [skipL_ok hF hw]; exact Bool.false_ne_true), hd]
  exact K a hF
theorem s_go {R : Value → World → Prop} (hw : wantL ops L o.guard = true) (hd : o.dst = some d) (hlt : Nat.blt d n = true) (h : GoesL P n ds L o w R) (K : ∀ v w', R v w' → ∀ a', Fr n ds ((d, v) :: L) a' → wpList P ops.toArray Q rest a' w') : ∀ a, Fr n ds L a → wpList P ops.toArray Q (o :: rest) a w := by
  intro a hF
  obtain ⟨v, w', hr, hR⟩ := h a hF
  unfold wpList
  rw [if_pos (wantL_ok hF hw)]
  left
  unfold Oper.wp
  rw [hr, Oper.upon_value, hd]
  exact K v w' hR _ (hF.put d v hlt)
theorem s_put {R : World → Prop} (hw : wantL ops L o.guard = true) (hd : o.dst = none) (h : PutsL P n ds L o w R) (K : ∀ w', R w' → ∀ a, Fr n ds L a → wpList P ops.toArray Q rest a w') : ∀ a, Fr n ds L a → wpList P ops.toArray Q (o :: rest) a w := by
  intro a hF
  obtain ⟨w', hr, hR⟩ := h a hF
  unfold wpList
  rw [if_pos (wantL_ok hF hw)]
  left
  unfold Oper.wp
  rw [hr, Oper.upon_skip, hd]
  exact K w' hR a hF
/-- a test inside a statement that is not decided yet -/
theorem s_part {p : Prop} [Decidable p] (t : Nat) (ht : look L t = some (.bool (decide p))) (hy : p → ∀ a, Fr n ds ((t, .bool true) :: L) a → wpList P ops.toArray Q (o :: rest) a w) (hn : ¬ p → ∀ a, Fr n ds ((t, .bool false) :: L) a → wpList P ops.toArray Q (o :: rest) a w) : ∀ a, Fr n ds L a → wpList P ops.toArray Q (o :: rest) a w := by
  intro a hF
  by_cases h : p
  · exact hy h a (hF.upd t ht (by simp [h]))
  · exact hn h a (hF.upd t ht (by simp [h]))
theorem s_part_b {b : Bool} (t : Nat) (ht : look L t = some (.bool b)) (hy : b = true → ∀ a, Fr n ds ((t, .bool true) :: L) a → wpList P ops.toArray Q (o :: rest) a w) (hn : b = false → ∀ a, Fr n ds ((t, .bool false) :: L) a → wpList P ops.toArray Q (o :: rest) a w) : ∀ a, Fr n ds L a → wpList P ops.toArray Q (o :: rest) a w := by
  intro a hF
  cases b with
  | true => exact hy rfl a (hF.upd t ht rfl)
  | false => exact hn rfl a (hF.upd t ht rfl)
theorem s_end {N R : Act → World → Prop} {X : Nat → Act → World → Prop} (h : ∀ a, Fr n ds L a → N a w) : ∀ a, Fr n ds L a → wpList P ops.toArray (Qp N X R) [] a w := h
theorem s_region {id : Nat} {N R : Act → World → Prop} {X : Nat → Act → World → Prop} (h : ∀ a, Fr n ds L a → wpList P ops.toArray (Qp N X R) ops a w) : ∀ a, Fr n ds L a → (Code.region id ops.toArray false).wp P (Qp N X R) a w := fun a hF => wp_region_lit (h a hF)
/-- a call of a Go function -/
theorem s_call {R : Value → World → Prop} {f : FuncId} {args : List Operand} {vs : List Value} {tys : Array TypeId} (hw : wantL ops L o.guard = true) (hd : o.dst = some d) (hlt : Nat.blt d n = true)
    (ho : o.op = .call { callee := .value (.func f), args := args.toArray, argTypes := tys }) (hargs : evs L args = some vs) (hr : ∀ w, (callFunc f vs.toArray).run P w = .ok (.enter f vs.toArray) w) (h : Calls P f vs.toArray w (Ret R))
    (K : ∀ v w', R v w' → ∀ a', Fr n ds ((d, v) :: L) a' → wpList P ops.toArray Q rest a' w') : ∀ a, Fr n ds L a → wpList P ops.toArray Q (o :: rest) a w := by
  intro a hF
  unfold wpList
  rw [if_pos (wantL_ok hF hw)]
  left
  have hrun : (execOp a.eval o).run P w = .ok (.enter f vs.toArray) w := by
    unfold execOp
    have e := hF.evs hargs
    simp only [ho, resolve, Act.eval, Deferred.ofValue, invoke]
    simp only [go_sem, List.map_toArray, e, List.nil_append, List.append_nil, hr]
    simpa using hr w
  unfold Oper.wp
  rw [hrun, Oper.upon_enter]
  exact Calls.mono h fun e w' q => by
    cases e with
    | returned v => simp only [hd]; exact K v w' q _ (hF.put d v hlt)
    | panicked c => exact q.elim
    | outgrown => exact q.elim
/-- a call of a Go function without a result -/
theorem s_call0 {R : Value → World → Prop} {f : FuncId} {args : List Operand} {vs : List Value} {tys : Array TypeId} (hw : wantL ops L o.guard = true) (hd : o.dst = none)
    (ho : o.op = .call { callee := .value (.func f), args := args.toArray, argTypes := tys }) (hargs : evs L args = some vs) (hr : ∀ w, (callFunc f vs.toArray).run P w = .ok (.enter f vs.toArray) w) (h : Calls P f vs.toArray w (Ret R))
    (K : ∀ v w', R v w' → ∀ a, Fr n ds L a → wpList P ops.toArray Q rest a w') : ∀ a, Fr n ds L a → wpList P ops.toArray Q (o :: rest) a w := by
  intro a hF
  unfold wpList
  rw [if_pos (wantL_ok hF hw)]
  left
  have hrun : (execOp a.eval o).run P w = .ok (.enter f vs.toArray) w := by
    unfold execOp
    have e := hF.evs hargs
    simp only [ho, resolve, Act.eval, Deferred.ofValue, invoke]
    simp only [go_sem, List.map_toArray, e, List.nil_append, List.append_nil, hr]
    simpa using hr w
  unfold Oper.wp
  rw [hrun, Oper.upon_enter]
  exact Calls.mono h fun e w' q => by
    cases e with
    | returned v => simp only [hd]; exact K v w' q a hF
    | panicked c => exact q.elim
    | outgrown => exact q.elim
end steps

/-! ## The same in a region that draws its order, where nothing but callees' new memory comes to be -/
section quiet
variable {P : Program} {ops : List Oper} {C : World → Prop} {Q : Act → Prop} {a : Act} {rest : List Oper} {o : Oper} {n d : Nat} {ds : List Deferred} {L : List (Nat × Value)} {v : Value}

theorem q_do (hw : wantL ops L o.guard = true) (hd : o.dst = some d) (hlt : Nat.blt d n = true) (hdo : DoesL P C n ds L o v) (K : ∀ a', Fr n ds ((d, v) :: L) a' → wpQuiet P ops.toArray C Q rest a') : ∀ a, Fr n ds L a → wpQuiet P ops.toArray C Q (o :: rest) a := fun a hF =>
  wpQuiet_step fun K' hK => by
    rw [if_pos (wantL_ok hF hw)]
    refine ⟨v, fun w hC => ?_, hK _ ?_⟩
    · unfold Oper.quietAt; rw [hdo a hF w hC]; exact ⟨rfl, rfl⟩
    · rw [hd]; exact K _ (hF.put d v hlt)
theorem q_skip (hw : skipL ops L o.guard = true) (hd : o.dst = some d) (hlt : Nat.blt d n = true) (K : ∀ a', Fr n ds ((d, undef) :: L) a' → wpQuiet P ops.toArray C Q rest a') : ∀ a, Fr n ds L a → wpQuiet P ops.toArray C Q (o :: rest) a := fun a hF =>
  wpQuiet_step fun K' hK => by
    rw [if_neg (by rw [skipL_ok hF hw]; exact Bool.false_ne_true)]
    exact hK _ (by rw [hd]; exact K _ (hF.put d undef hlt))
theorem q_part {p : Prop} [Decidable p] (t : Nat) (ht : look L t = some (.bool (decide p))) (hy : p → ∀ a, Fr n ds ((t, .bool true) :: L) a → wpQuiet P ops.toArray C Q (o :: rest) a) (hn : ¬ p → ∀ a, Fr n ds ((t, .bool false) :: L) a → wpQuiet P ops.toArray C Q (o :: rest) a) : ∀ a, Fr n ds L a → wpQuiet P ops.toArray C Q (o :: rest) a := by
  intro a hF
  by_cases h : p
  · exact hy h a (hF.upd t ht (by simp [h]))
  · exact hn h a (hF.upd t ht (by simp [h]))
theorem q_part_b {b : Bool} (t : Nat) (ht : look L t = some (.bool b)) (hy : b = true → ∀ a, Fr n ds ((t, .bool true) :: L) a → wpQuiet P ops.toArray C Q (o :: rest) a) (hn : b = false → ∀ a, Fr n ds ((t, .bool false) :: L) a → wpQuiet P ops.toArray C Q (o :: rest) a) : ∀ a, Fr n ds L a → wpQuiet P ops.toArray C Q (o :: rest) a := by
  intro a hF
  cases b with
  | true => exact hy rfl a (hF.upd t ht rfl)
  | false => exact hn rfl a (hF.upd t ht rfl)
theorem q_call {f : FuncId} {args : List Operand} {vs : List Value} {tys : Array TypeId} (hw : wantL ops L o.guard = true) (hd : o.dst = some d) (hlt : Nat.blt d n = true)
    (ho : o.op = .call { callee := .value (.func f), args := args.toArray, argTypes := tys }) (hargs : evs L args = some vs) (hr : ∀ w, (callFunc f vs.toArray).run P w = .ok (.enter f vs.toArray) w) (h : ∀ w, C w → Calls P f vs.toArray w (Ret fun u w' => u = v ∧ C w'))
    (K : ∀ a', Fr n ds ((d, v) :: L) a' → wpQuiet P ops.toArray C Q rest a') : ∀ a, Fr n ds L a → wpQuiet P ops.toArray C Q (o :: rest) a := fun a hF =>
  wpQuiet_step fun K' hK => by
    rw [if_pos (wantL_ok hF hw)]
    refine ⟨v, fun w hC => ?_, hK _ ?_⟩
    · have hrun : (execOp a.eval o).run P w = .ok (.enter f vs.toArray) w := by
        unfold execOp
        have e := hF.evs hargs
        simp only [ho, resolve, Act.eval, Deferred.ofValue, invoke]
        simp only [go_sem, List.map_toArray, e, List.nil_append, List.append_nil, hr]
        simpa using hr w
      unfold Oper.quietAt
      rw [hrun]
      refine ⟨rfl, Calls.mono (h w hC) fun e w' q => ?_⟩
      cases e with
      | returned u => exact ⟨by rw [q.1], q.2⟩
      | panicked c => exact q.elim
      | outgrown => exact q.elim
    · rw [hd]; exact K _ (hF.put d v hlt)
/-- a callee that only makes memory of its own, in the class of what lies beyond w₀ -/
theorem q_ok {P : Program} {f : FuncId} {args : Array Value} {w₀ w : World} {v : Value} (x : Ext No w₀ w) (c : Calls P f args w (Ret fun u w' => u = v ∧ Ext No w w')) : Calls P f args w (Ret fun u w' => u = v ∧ Ext No w₀ w') :=
  Ret.mono c fun _ _ q => ⟨q.1, x.trans q.2⟩
theorem q_end {N : Act → World → Prop} (h : ∀ w', C w' → ∀ a, Fr n ds L a → N a w') : ∀ a, Fr n ds L a → wpQuiet P ops.toArray C (fun a' => ∀ w', C w' → N a' w') [] a := fun a hF w' hw => h w' hw a hF
theorem q_region {id : Nat} {N R : Act → World → Prop} {X : Nat → Act → World → Prop} {w : World} (C : World → Prop) (hm : P.follows .mixedOrders = true) (hB : Region.lexB .any ops.toArray = true) (hC : C w.drew)
    (h : ∀ a, Fr n ds L a → wpQuiet P ops.toArray C (fun a' => ∀ w', C w' → N a' w') ops a) : ∀ a, Fr n ds L a → (Code.region id ops.toArray true).wp P (Qp N X R) a w := fun a hF =>
  wp_region_quiet (C := C) hm hB hC (h a hF)
end quiet
end Go.Proofs.YtanejicgmgpjcaaGreatDoor
