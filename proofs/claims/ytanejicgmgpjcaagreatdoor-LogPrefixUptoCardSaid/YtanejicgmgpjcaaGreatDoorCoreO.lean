/-
  Functions without a body, deferred calls, conversions to unsafe.Pointer, over memory in parts. Over any program. No condition.
-/
import Derived.Test.YtanejicgmgpjcaaGreatDoorCoreV
import Derived.Defers
import Derived.Laws.LoneSync
namespace Go.Proofs.YtanejicgmgpjcaaGreatDoor
open Go.RowKit

section
variable {P : Program} {C : World → Prop} {o : Oper} {a : Act} {w z : World} {Γ : List Asn} {n : Nat} {ds : List Deferred} {L : List (Nat × Value)} {v : Value} {x y : Operand} {xt yt : TypeId} {f : FuncId} {args : List Operand} {vs : List Value} {tys : Array TypeId}
theorem run_ext {w' : World} (hF : Fr n ds L a) (ho : o.op = .call { callee := .value (.func f), args := args.toArray, argTypes := tys }) (hargs : evs L args = some vs) (hr : (callFunc f vs.toArray).run P w = .ok (.value v) w') : (execOp a.eval o).run P w = .ok (.value v) w' := by
  unfold execOp
  have e := hF.evs hargs
  simp only [ho, resolve, Act.eval, Deferred.ofValue, invoke]
  simp only [go_sem, List.map_toArray, e, List.nil_append, List.append_nil, hr]
  simpa using hr
/-- a function without a body that reads, or only marks -/
theorem d_ext (ho : o.op = .call { callee := .value (.func f), args := args.toArray, argTypes := tys }) (hargs : evs L args = some vs) (hr : ∀ w, C w → (callFunc f vs.toArray).run P w = .ok (.value v) w) : DoesL P C n ds L o v := fun a hF w hw => run_ext hF ho hargs (hr w hw)
/-- one that writes a cell -/
theorem n_ext (i : Nat) {b p : Nat} {cs : List Value} {ty : TypeId} {u u0 : Value} (H : Sep z Γ w) (hi : Γ[i]? = some (blk b cs ty)) (hp : cs[p]? = some u0) (ho : o.op = .call { callee := .value (.func f), args := args.toArray, argTypes := tys }) (hargs : evs L args = some vs) (hu : u.oneCell' = true)
    (hr : w.cell? ⟨b, p, none⟩ = some u0 → w.frozen? ⟨b, p, none⟩ = false → (callFunc f vs.toArray).run P w = .ok (.value v) (w.setCell ⟨b, p, none⟩ u)) {out : List Value} (hout : cs.set p u = out) : GoesL P n ds L o w (fun v' w' => v' = v ∧ Sep z (Γ.set i (blk b out ty)) w') := fun a hF => by
  have hB := H.blk i hi
  refine ⟨v, _, run_ext hF ho hargs (hr (hB.cel p hp) (hB.free p)), rfl, ?_⟩
  subst hout
  have hlt := hB.lt
  have hb' : w.heap[b]? = some (.cells cs.toArray ty (0, 0)) := hB
  refine H.write i hi rfl rfl rfl ?_ (fun q hq => ?_)
  · simp only [World.setCell]
    rw [Array.getElem?_modify, if_pos rfl, hb']
    simp
  · simp [World.setCell, Array.getElem?_modify, Ne.symm hq]
def unsafeTo (P : Program) (s d : TypeId) : Bool := match P.underlying s, P.underlying d with
  | some (.pointer t), some .unsafePointer => (match P.info? t with | some i => !(decide (i.size = 0)) | none => false)
  | _, _ => false
theorem d_unsafe {dt : TypeId} {b p : Nat} {u : Value} (ho : o.op = .convert xt dt x) (h1 : unsafeTo P xt dt = true) (hx : ev L x = some (.pointer (some ⟨b, p, none⟩))) (hc : ∀ w, C w → Cel b p u w) : DoesL P C n ds L o (.pointer (some ⟨b, p, none⟩)) := fun a hF w hw => by
  unfold unsafeTo at h1
  split at h1
  · rename_i t hs hd
    split at h1
    · rename_i i hi
      have hsz : (P.info? t).map (fun i => decide (i.size = 0)) = some false := by rw [hi]; simpa using h1
      have := run_convert_to_unsafe (P := P) hs hd hsz (hc w hw)
      simp only [execOp, ho, hF.ev hx, Sem.run_bind, this, Result.andThen_ok, Sem.run_pure]
    · cases h1
  · cases h1
end

/-! ### Deferred calls -/
/-- what a function does when it is called at another one's end -/
def CnD (P : Program) (f : FuncId) (args : List Value) (pre : List Asn) (post : Value → List Asn → Prop) : Prop :=
  ∀ z R u w, Sep z (pre ++ R) w → CallsD P f args.toArray u w (fun e u' w' => u' = u ∧ Ret (fun v w' => ∃ Γ', post v Γ' ∧ Sep z (Γ' ++ R) w') e w')
theorem enterD {P : Program} {f : FuncId} {fn : Func} {c : Code} {args : List Value} {u : FrameMode} {w : World} {R : Value → World → Prop} (hf : P.funcs[f]? = some fn) (hb : fn.body = some c) (n : Nat) (hn : fn.ntmps = n) (hlen : Nat.ble args.length n = true)
    (h : ∀ a, Fr n [] (first 0 args) a → c.wp P (Qp (Done P fn R) noX (Done P fn R)) a w) : CallsD P f args.toArray u w (fun e u' w' => u' = u ∧ Ret R e w') := by
  refine callsD_of_wp hf hb (wp_mono (h _ (by rw [hn]; exact Fr.start args n (by simpa using hlen))) fun e a w q => ?_)
  cases e with
  | normal => obtain ⟨hd, v, hr, hR⟩ := q; exact ⟨hd, v, hr, hR⟩
  | ret => obtain ⟨hd, v, hr, hR⟩ := q; exact ⟨hd, v, hr, hR⟩
  | exit id => exact q.elim
  | goto l => exact q.elim
  | panic ch => exact q.elim
  | outgrown => exact q.elim
/-- what holds where the body of a function that defers is left -/
def DoneL (P : Program) (fn : Func) (R : Value → World → Prop) (a : Act) (w : World) : Prop := Leaves P fn a.tmps (Ret R) a.defers .returning w
theorem enterL {P : Program} {f : FuncId} {fn : Func} {c : Code} {args : List Value} {w : World} {R : Value → World → Prop} (hf : P.funcs[f]? = some fn) (hb : fn.body = some c) (n : Nat) (hn : fn.ntmps = n) (hlen : Nat.ble args.length n = true)
    (h : ∀ a, Fr n [] (first 0 args) a → c.wp P (Qp (DoneL P fn R) noX (DoneL P fn R)) a w) : Calls P f args.toArray w (Ret R) := by
  refine calls_of_wp_defers hf hb (wp_mono (h _ (by rw [hn]; exact Fr.start args n (by simpa using hlen))) fun e a w q => ?_)
  cases e with
  | normal => exact q
  | ret => exact q
  | exit id => exact q.elim
  | goto l => exact q.elim
  | panic ch => exact q.elim
  | outgrown => exact q.elim
def dfr (f : FuncId) (vs : List Value) : Deferred := { target := .fn (.func f) #[], args := vs.toArray }
theorem leaves_C {P : Program} {fn : Func} {tmps : Array Value} {Rr : Ending → World → Prop} {ds : List Deferred} {z w : World} {Γ pre R' : List Asn} {post : Value → List Asn → Prop} {f : FuncId} {vs : List Value} (hr : ∀ w, (callFunc f vs.toArray).run P w = .ok (.enter f vs.toArray) w)
    (hc : CnD P f vs pre post) (H : Sep z Γ w) (k : Nat) (is : List Nat) (hok : okIs k is = true) (e : picks Γ is ++ Γ.drop k = pre ++ R') (K : ∀ v w' Γ', post v Γ' → Sep z (Γ' ++ R') w' → Leaves P fn tmps Rr ds .returning w') : Leaves P fn tmps Rr (dfr f vs :: ds) .returning w := by
  refine leaves_cons (f := f) (args := vs.toArray) (by simp) (by simp [invoke, go_sem, hr]) ?_
  refine CallsD.mono (hc z R' .returning w (H.perm k is hok e)) fun e u' w' q => ?_
  obtain ⟨rfl, q⟩ := q
  cases e with
  | returned v => obtain ⟨Γ', q1, q2⟩ := q; exact K v w' Γ' q1 q2
  | panicked ch => exact q.elim
  | outgrown => exact q.elim
theorem doneN {P : Program} {fn : Func} {R : Value → World → Prop} {tmps : Array Value} {w : World} (hr : fn.results = #[]) (h : R (.tuple #[]) w) : Leaves P fn tmps (Ret R) [] .returning w := ⟨.tuple #[], by simp [results, hr, go_sem], h⟩
section
variable {P : Program} {ops : List Oper} {Q : Exit → Act → World → Prop} {w : World} {rest : List Oper} {o : Oper} {n : Nat} {ds : List Deferred} {L : List (Nat × Value)} {f : FuncId} {args : List Operand} {vs : List Value} {tys : Array TypeId}
theorem s_defer (hw : wantL ops L o.guard = true) (hd : o.dst = none) (ho : o.op = .defer { callee := .value (.func f), args := args.toArray, argTypes := tys }) (hargs : evs L args = some vs)
    (K : ∀ a', Fr n (dfr f vs :: ds) L a' → wpList P ops.toArray Q rest a' w) : ∀ a, Fr n ds L a → wpList P ops.toArray Q (o :: rest) a w := by
  intro a hF
  unfold wpList
  rw [if_pos (wantL_ok hF hw)]
  left
  have e := hF.evs hargs
  have hrun : (execOp a.eval o).run P w = .ok (.defer (dfr f vs)) w := by
    unfold execOp
    simp only [ho, resolve, Act.eval, Deferred.ofValue, List.map_toArray, e]
    simp [go_sem, dfr]
  unfold Oper.wp
  rw [hrun, Oper.upon_defer, hd]
  exact K _ ⟨hF.size, by show dfr f vs :: a.defers = _; rw [hF.defers], hF.get⟩
/-- a call of a function value that is a function with its first argument -/
theorem s_callB {z : World} {Γ pre R' : List Asn} {post : Value → List Asn → Prop} {d : Nat} {x : Operand} {bs : List Value} (hw : wantL ops L o.guard = true) (hd : o.dst = some d) (hlt : Nat.blt d n = true) (ho : o.op = .call { callee := .value x, args := args.toArray, argTypes := tys }) (hx : ev L x = some (.func (.func f) bs.toArray #[])) (hargs : evs L args = some vs) (hr : ∀ w, (callFunc f (bs ++ vs).toArray).run P w = .ok (.enter f (bs ++ vs).toArray) w)
    (hc : Cn P f (bs ++ vs) pre post) (H : Sep z Γ w) (k : Nat) (is : List Nat) (hok : okIs k is = true) (e : picks Γ is ++ Γ.drop k = pre ++ R')
    (K : ∀ v w' Γ', post v Γ' → Sep z (Γ' ++ R') w' → ∀ a', Fr n ds ((d, v) :: L) a' → wpList P ops.toArray Q rest a' w') : ∀ a, Fr n ds L a → wpList P ops.toArray Q (o :: rest) a w := by
  intro a hF
  unfold wpList
  rw [if_pos (wantL_ok hF hw)]
  left
  have e1 := hF.evs hargs
  have e2 := hF.ev hx
  have hrun : (execOp a.eval o).run P w = .ok (.enter f (bs ++ vs).toArray) w := by
    unfold execOp
    simp only [ho, resolve, e2, Deferred.ofValue, invoke]
    simp only [go_sem, List.map_toArray, e1, List.append_nil]
    simpa using hr w
  unfold Oper.wp
  rw [hrun, Oper.upon_enter]
  exact Calls.mono (hc.at H k is hok e) fun e w' q => by
    cases e with
    | returned v => obtain ⟨Γ', q1, q2⟩ := q; simp only [hd]; exact K v w' Γ' q1 q2 _ (hF.put d v hlt)
    | panicked c => exact q.elim
    | outgrown => exact q.elim
end
end Go.Proofs.YtanejicgmgpjcaaGreatDoor
