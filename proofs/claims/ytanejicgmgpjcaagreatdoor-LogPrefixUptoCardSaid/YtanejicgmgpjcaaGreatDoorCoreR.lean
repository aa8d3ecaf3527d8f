/-
  Ranges over a function, over memory in parts: what a round does, what an iterator does, the statement. Over any program. No condition.
-/
import Derived.Test.YtanejicgmgpjcaaGreatDoorCoreV
import Derived.RangeFuncLeaves
import Derived.RangeFuncRecord
import Derived.RangeFuncCalls
import Derived.RangeFuncSeq
import Derived.OrdersIn
import Derived.TacticsIn
namespace Go.Proofs.YtanejicgmgpjcaaGreatDoor
open Go.RowKit

/-- where no fence is; in a round of loop l, or in none -/
abbrev FX (ro : Option Nat) : Fence := { Fence.wide with round := ro }
def RW (P : Program) (ro : Option Nat) (c : Code) (Q : Exit → Act → World → Prop) (a : Act) (w : World) : Prop := c.wpIn (FX ro) 0 P Q a w

section
variable {P : Program} {ro : Option Nat} {N R : Act → World → Prop} {X : Nat → Act → World → Prop} {a : Act} {w : World} {n : Nat} {ds : List Deferred} {L : List (Nat × Value)}

theorem rk_mono {c : Code} {Q Q' : Exit → Act → World → Prop} (h : RW P ro c Q a w) (hq : ∀ e a w, Q e a w → Q' e a w) : RW P ro c Q' a w := wpIn_mono h hq
theorem rk_seq {x y : Code} (h : ∀ a, Fr n ds L a → RW P ro x (Qp (fun a w => RW P ro y (Qp N X R) a w) X R) a w) : ∀ a, Fr n ds L a → RW P ro (Code.seq x y) (Qp N X R) a w := fun a hF =>
  wpIn_seq (wpIn_mono (h a hF) fun e a w q => by cases e <;> exact q)
theorem rk_skip (h : ∀ a, Fr n ds L a → N a w) : ∀ a, Fr n ds L a → RW P ro Code.skip (Qp N X R) a w := fun a hF => wpIn_skip (h a hF)
theorem rk_exit {id : Nat} (h : ∀ a, Fr n ds L a → X id a w) : ∀ a, Fr n ds L a → RW P ro (Code.exit id) (Qp N X R) a w := fun a hF => wpIn_exit (h a hF)
theorem rk_ret (h : ∀ a, Fr n ds L a → R a w) : ∀ a, Fr n ds L a → RW P ro Code.ret (Qp N X R) a w := fun a hF => wpIn_ret (h a hF)
theorem rk_block {id : Nat} {c : Code} (h : ∀ a, Fr n ds L a → RW P ro c (Qp N (upd X id N) R) a w) : ∀ a, Fr n ds L a → RW P ro (Code.block id c) (Qp N X R) a w := fun a hF =>
  wpIn_block (wpIn_mono (h a hF) fun e a w q => by cases e <;> exact q)
theorem rk_true {c : Operand} {x y : Code} (hc : ev L c = some (.bool true)) (h : ∀ a, Fr n ds L a → RW P ro x (Qp N X R) a w) : ∀ a, Fr n ds L a → RW P ro (Code.cond c x y) (Qp N X R) a w := fun a hF => wpIn_cond_true (hF.ev hc) (h a hF)
theorem rk_false {c : Operand} {x y : Code} (hc : ev L c = some (.bool false)) (h : ∀ a, Fr n ds L a → RW P ro y (Qp N X R) a w) : ∀ a, Fr n ds L a → RW P ro (Code.cond c x y) (Qp N X R) a w := fun a hF => wpIn_cond_false (hF.ev hc) (h a hF)
theorem rk_cond {c : Operand} {x y : Code} {b : Bool} (hc : ev L c = some (.bool b)) (ht : b = true → ∀ a, Fr n ds L a → RW P ro x (Qp N X R) a w) (hf : b = false → ∀ a, Fr n ds L a → RW P ro y (Qp N X R) a w) : ∀ a, Fr n ds L a → RW P ro (Code.cond c x y) (Qp N X R) a w := by
  cases b with
  | true => exact rk_true hc (ht rfl)
  | false => exact rk_false hc (hf rfl)
theorem rk_dec {c : Operand} {x y : Code} {p : Prop} [hp : Decidable p] (hc : ev L c = some (.bool (decide p))) (ht : p → ∀ a, Fr n ds L a → RW P ro x (Qp N X R) a w) (hf : ¬ p → ∀ a, Fr n ds L a → RW P ro y (Qp N X R) a w) : ∀ a, Fr n ds L a → RW P ro (Code.cond c x y) (Qp N X R) a w :=
  rk_cond hc (fun h => ht (of_decide_eq_true h)) (fun h => hf (of_decide_eq_false h))

/-- A loop. -/
theorem rc_loop {c : Code} {σ : Type} (Lv : σ → List (Nat × Value)) (G : σ → World → Prop) (m : σ → Nat) (s₀ : σ)
    (h₀ : ∀ a, Fr n ds L a → Fr n ds (Lv s₀) a) (g₀ : G s₀ w)
    (round : ∀ s w, G s w → ∀ a, Fr n ds (Lv s) a → RW P ro c (Qp (fun a' w' => ∃ s', Fr n ds (Lv s') a' ∧ G s' w' ∧ m s' < m s) X R) a w) : ∀ a, Fr n ds L a → RW P ro (Code.loop c) (Qp N X R) a w := by
  intro a hF b k cs hro hb hr
  have key : ∀ n' s a w, m s = n' → Fr n ds (Lv s) a → G s w →
      ∃ e a' w', Qp N X R e a' w' ∧ ArrivesIn (Machine.fenced P (FX ro)) P (lone (b.atR a (.code c :: .inLoop c :: k)) cs w) b k cs e a' w' := by
    intro n'
    induction n' using Nat.strongRecOn with
    | _ n' ih =>
      intro s a w hn hI hG
      obtain ⟨e, a₁, w₁, hq, harr⟩ := round s w hG a hI b (.inLoop c :: k) cs hro hb hr
      cases e with
      | normal =>
        obtain ⟨s₁, hI₁, hG₁, hlt⟩ := hq
        obtain ⟨e₂, a₂, w₂, hq₂, harr₂⟩ := ih (m s₁) (hn ▸ hlt) s₁ a₁ w₁ rfl hI₁ hG₁
        exact ⟨e₂, a₂, w₂, hq₂, .of_steps (StepsIn.trans harr (.one (fenced_calm hb hr rfl) stepR_inLoop)) harr₂⟩
      | exit id => exact ⟨.exit id, a₁, w₁, hq, .pass (x := .inLoop c) rfl (fun _ _ => .inl (by simp)) harr⟩
      | ret => exact ⟨.ret, a₁, w₁, hq, .pass (x := .inLoop c) rfl (fun _ _ => .inl (by simp)) harr⟩
      | goto l => exact hq.elim
      | panic ch => exact hq.elim
      | outgrown => exact hq.elim
  obtain ⟨e, a', w', hq, harr⟩ := key _ s₀ a w rfl (h₀ a hF) g₀
  exact ⟨e, a', w', hq, .of_steps (.one (fenced_calm hb hr rfl) stepR_loop) harr⟩

/-! ### Operations -/
def noDefer (o : Oper) : Bool := match o.op with | .defer _ => false | _ => true
theorem noDefer_ok {o : Oper} (h : noDefer o = true) : ∀ c, o.op ≠ .defer c := fun c e => by rw [noDefer, e] at h; cases h
theorem sem_at (o : Oper) (h : noDefer o = true) (ρ : Operand → Value) : Oper.semAt ro ρ o = execOp ρ o := by
  cases ro with
  | none => rfl
  | some l => exact Oper.semAt_some l ρ o (noDefer_ok h)
theorem calls_in {f : FuncId} {args : Array Value} {E : Ending → World → Prop} (h : Calls P f args w E) (k : Nat) : CallsIn (FX ro) k P f args w E := callsIn_wide.2 h
theorem rows_in {row : String} {args : Array Value} {E : Value → World → Prop} (h : Rows P row args w E) (k : Nat) : RowsIn (FX ro) k P row args w E := fun c cs _ =>
  let ⟨v, w', r, s⟩ := h c cs; ⟨v, w', r, stepsIn_wide.2 s⟩
theorem oper_in {o : Oper} (hd : noDefer o = true) {K : Act → World → Prop} (h : o.wp P a w K (Qp N X R)) : o.wpIn (FX ro) 0 P a w K (Qp N X R) := by
  refine ⟨fun _ _ => trivial, ?_⟩
  rw [show (FX ro).round = ro from rfl, sem_at o hd]
  unfold Oper.wp at h
  cases hr : (execOp a.eval o).run P w with
  | ok x w' =>
    rw [hr] at h
    cases x <;> simp only [Oper.upon, Oper.uponIn] at h ⊢ <;> first
      | exact h
      | exact h.elim
      | exact ⟨fun q => (by cases q), calls_in (Calls.mono h fun e w'' q => by cases e <;> exact q) _⟩
      | exact ⟨fun q => (by cases q), rows_in h _⟩
  | halt x w' =>
    rw [hr] at h
    cases x <;> simp only [Oper.upon, Oper.uponIn] at h ⊢ <;> first
      | exact h
      | exact h.elim
theorem no_out {Q : Exit → Act → World → Prop} {N R : Act → World → Prop} {X : Nat → Act → World → Prop} (hQ : Q = Qp N X R) : ¬ LetsOut Q := by
  subst hQ; rintro ⟨a, w, h⟩; exact h
theorem list_in {ops : Array Oper} : ∀ (l : List Oper) (a : Act) (w : World), l.all noDefer = true → wpList P ops (Qp N X R) l a w → wpListIn (FX ro) 0 P ops (Qp N X R) l a w
  | [], _, _, _, h => h
  | o :: rest, a, w, hd, h => by
    simp only [List.all_cons, Bool.and_eq_true] at hd
    unfold wpList at h
    unfold wpListIn
    split
    · rename_i hw
      rw [if_pos hw] at h
      rcases h with h | ⟨_, h⟩
      · exact Oper.wpIn_mono (fun a w q => list_in rest a w hd.2 q) (oper_in hd.1 h)
      · exact absurd h (no_out rfl)
    · rename_i hw
      rw [if_neg hw] at h
      exact ⟨fun _ _ => trivial, list_in rest _ _ hd.2 h⟩
theorem rs_region {id : Nat} {ops : List Oper} (h : ∀ a, Fr n ds L a → wpList P ops.toArray (Qp N X R) ops a w) (hd : ops.all noDefer = true := by rfl) : ∀ a, Fr n ds L a → RW P ro (Code.region id ops.toArray false) (Qp N X R) a w := fun a hF =>
  wpIn_region_lit (list_in ops a w hd (h a hF))
theorem op_in {ops : Array Oper} (hd : ops.toList.all noDefer = true) {i : Nat} {K : Act → World → Prop} (h : wpOp P ops (Qp N X R) i K a w) : wpOpIn (FX ro) 0 P ops (Qp N X R) i K a w := by
  unfold wpOp at h
  unfold wpOpIn
  split
  · rename_i e; rw [e] at h; exact h
  · rename_i o e
    rw [e] at h
    simp only at h
    have hdo : noDefer o = true := List.all_eq_true.1 hd o (by
      have := Array.mem_of_getElem? e
      simpa using this)
    split
    · rename_i hw
      rw [if_pos hw] at h
      rcases h with h | ⟨_, h⟩
      · exact oper_in hdo h
      · exact absurd h (no_out rfl)
    · rename_i hw
      rw [if_neg hw] at h
      exact ⟨fun _ _ => trivial, h⟩
theorem any_in {ops : Array Oper} (hd : ops.toList.all noDefer = true) : ∀ (fuel : Nat) (listed : Array Bool) (a : Act) (w : World), wpAny P .any ops (Qp N X R) fuel listed a w → wpAnyIn (FX ro) 0 P .any ops (Qp N X R) fuel listed a w
  | 0, _, _, _, h => h
  | fuel + 1, _, _, _, h => ⟨h.1, fun i hi => wpOpIn_mono (fun a w q => any_in hd fuel _ a w q) (op_in hd (h.2 i hi))⟩
theorem rl_region {id : Nat} {ops : List Oper} (S : World → Prop) (k : Nat) (hk : ops.length = k) (hm : P.follows .mixedOrders = true)
    (h : ∀ w', Ext No w w' → w'.heap.size = w.heap.size → ∀ a, Fr n ds L a → AnyK P ops (Qp N X R) S k (Array.replicate k false) a w') (hd : ops.all noDefer = true := by rfl) : ∀ a, Fr n ds L a → RW P ro (Code.region id ops.toArray true) (Qp N X R) a w := fun a hF =>
  wpIn_region_any hm (any_in (by simpa using hd) _ _ _ _ (wpAny_of_K (S := S) _ _ _ _ (by have := h _ (Ext.drawn No w) rfl a hF (Dc.start _ _) (by simp [hk]); simpa [hk] using this)))
theorem rq_region {id : Nat} {ops : List Oper} (C : World → Prop) (hm : P.follows .mixedOrders = true) (hB : Region.lexB .any ops.toArray = true) (hC : C w.drew)
    (h : ∀ a, Fr n ds L a → wpQuiet P ops.toArray C (fun a' => ∀ w', C w' → N a' w') ops a) (hd : ops.all noDefer = true := by rfl) : ∀ a, Fr n ds L a → RW P ro (Code.region id ops.toArray true) (Qp N X R) a w := fun a hF => by
  refine wpIn_region_any hm (any_in (by simpa using hd) _ _ _ _ ?_)
  have hB' := hB
  simp only [Region.lexB, Bool.and_eq_true] at hB'
  refine wpAny_of_quiet (C := C) (Q := fun a' => ∀ w', C w' → N a' w') (fun _ w' hw' h => h w' hw') _ _ _ _ hC ?_
  have := wpAnyQ_lex (C := C) (md := .any) hB'.1 ops.toArray.toList 0 (Array.replicate ops.toArray.size false) a (by simp) (by simpa using hB'.2) (h a hF)
  simpa using this

/-! ### Operations one by one, yield among them -/
section steps
variable {ops : List Oper} {Q : Exit → Act → World → Prop} {rest : List Oper} {o : Oper} {d : Nat} {v : Value}
theorem i_region {id : Nat} (h : ∀ a, Fr n ds L a → wpListIn (FX ro) 0 P ops.toArray (Qp N X R) ops a w) : ∀ a, Fr n ds L a → RW P ro (Code.region id ops.toArray false) (Qp N X R) a w := fun a hF => wpIn_region_lit (h a hF)
theorem i_end (h : ∀ a, Fr n ds L a → N a w) : ∀ a, Fr n ds L a → wpListIn (FX ro) 0 P ops.toArray (Qp N X R) [] a w := h
theorem i_do (hw : wantL ops L o.guard = true) (hd : o.dst = some d) (hlt : Nat.blt d n = true) (hdo : DoesL P (· = w) n ds L o v) (K : ∀ a', Fr n ds ((d, v) :: L) a' → wpListIn (FX ro) 0 P ops.toArray Q rest a' w) (hnd : noDefer o = true := by rfl) : ∀ a, Fr n ds L a → wpListIn (FX ro) 0 P ops.toArray Q (o :: rest) a w := by
  intro a hF
  unfold wpListIn
  rw [if_pos (wantL_ok hF hw)]
  refine ⟨fun _ _ => trivial, ?_⟩
  rw [show (FX ro).round = ro from rfl, sem_at o hnd, hdo a hF w rfl, Oper.uponIn_value, hd]
  exact K _ (hF.put d v hlt)
/-- a round: it says whether it goes on -/
theorem i_yield {l : Nat} {x : Operand} {args : List Operand} {vs : List Value} {tys : Array TypeId} {E : Ending → World → Prop} (hw : wantL ops L o.guard = true) (hd : o.dst = some d) (hlt : Nat.blt d n = true)
    (ho : o.op = .call { callee := .value x, args := args.toArray, argTypes := tys }) (hx : ev L x = some (.func (.yield l) #[] #[])) (hargs : evs L args = some vs) (hy : YieldAt (FX none) 0 P l vs.toArray w E)
    (hE : ∀ e w', E e w' → ∃ v, e = .returned v ∧ ∀ a', Fr n ds ((d, v) :: L) a' → wpListIn (FX ro) 0 P ops.toArray Q rest a' w') : ∀ a, Fr n ds L a → wpListIn (FX ro) 0 P ops.toArray Q (o :: rest) a w := by
  intro a hF
  obtain ⟨fn, tmps, assign, body, hy, hR⟩ := hy
  have hnd : noDefer o = true := by rw [noDefer, ho]
  unfold wpListIn
  rw [if_pos (wantL_ok hF hw)]
  refine ⟨fun _ _ => trivial, ?_⟩
  have e1 := hF.evs hargs
  have e2 := hF.ev hx
  have hrun : (execOp a.eval o).run P w = .ok (.round l fn tmps assign body) w := by
    unfold execOp
    simp only [ho, resolve, e2, Deferred.ofValue, invoke]
    simp only [go_sem, List.map_toArray, e1, List.nil_append, List.append_nil, hy]
    simpa using hy
  rw [show (FX ro).round = ro from rfl, sem_at o hnd, hrun, Oper.uponIn_round]
  refine ⟨fun q => (by cases q), RoundIn.mono (show RoundIn (FX ro) 0 P l fn tmps assign body w E from hR) fun e w' q => ?_⟩
  obtain ⟨v, rfl, hK⟩ := hE e w' q
  simp only [hd]
  exact hK _ (hF.put d v hlt)
end steps
end

/-! ### An iterator -/
/-- The function gf (with what it has captured) calls yield with each of vs, in order; pre: its own parts, which it leaves as they are. -/
def It (P : Program) (gf : FuncId) (lb : List Value) (pre : List Asn) (vs : List (List Value)) : Prop :=
  ∀ (z : World) (l : Nat) (J : Nat → List Asn), (∀ i v, vs[i]? = some v → ∀ w, Sep z (pre ++ J i) w → YieldAt (FX none) 0 P l v.toArray w (fun e w' => e = .returned (.bool true) ∧ Sep z (pre ++ J (i + 1)) w')) →
    ∀ w, Sep z (pre ++ J 0) w → CallsIn (FX none) 0 P gf (#[Value.func (.yield l) #[] #[]] ++ lb.toArray) w (fun e w' => (∃ v, e = .returned v) ∧ Sep z (pre ++ J vs.length) w')
/-- an iterator's body -/
theorem it_enter {P : Program} {gf : FuncId} {fn : Func} {c : Code} {args : List Value} {w : World} {T : World → Prop} (hf : P.funcs[gf]? = some fn) (hb : fn.body = some c) (hr : fn.results = #[]) (n : Nat) (hn : fn.ntmps = n) (hlen : Nat.ble args.length n = true)
    (h : ∀ a, Fr n [] (first 0 args) a → RW P none c (Qp (fun a w => a.defers = [] ∧ T w) noX (fun a w => a.defers = [] ∧ T w)) a w) : CallsIn (FX none) 0 P gf args.toArray w (fun e w' => (∃ v, e = .returned v) ∧ T w') := by
  refine callsIn_of_wp hf hb trivial (wpIn_mono (h _ (by rw [hn]; exact Fr.start args n (by simpa using hlen))) fun e a w q => ?_) rfl
  cases e with
  | normal => exact ⟨q.1, .tuple #[], by simp [results, hr, go_sem], ⟨_, rfl⟩, q.2⟩
  | ret => exact ⟨q.1, .tuple #[], by simp [results, hr, go_sem], ⟨_, rfl⟩, q.2⟩
  | exit id => exact q.elim
  | goto l => exact q.elim
  | panic ch => exact q.elim
  | outgrown => exact q.elim

def mark (D : Nat) : Deferred := { target := .collected D, args := #[] }
def loopRec (st : LoopState) (fn : FuncId) (tmps : Array Value) (t : Nat) (assign body : Code) (D : Nat) : Obj := .loop { state := st, pending := none, fn, tmps, params := #[t], assign, body, defers := D }

theorem Sep.setObj {z w : World} {Γ : List Asn} (i : Nat) {b : Nat} {o : Obj} (o' : Obj) (H : Sep z Γ w) (hA : Γ[i]? = some (YtanejicgmgpjcaaGreatDoor.bk b o)) : Sep z (Γ.set i (YtanejicgmgpjcaaGreatDoor.bk b o')) (w.putObj b o') := by
  have hb := H.bk i hA
  have hlt : b < w.heap.size := (Array.getElem?_eq_some_iff.1 hb).1
  exact H.write i hA rfl rfl rfl (World.putObj_heap_same hlt) (fun k hk => World.putObj_heap_other hk)

/-- 'for t := range g { body }' where no round leaves -/
theorem k_range {P : Program} {N R : Act → World → Prop} {X : Nat → Act → World → Prop} {z w : World} {n : Nat} {ds : List Deferred} {L : List (Nat × Value)} {g : Operand} {t : Nat} {assign body : Code} {gf : FuncId} {lb : List Value} {pre : List Asn} {vs : List Value}
    (J : Nat → List Asn) (hg : ev L g = some (.func (.func gf) #[] lb.toArray)) (eg : ∀ args w, (callFunc gf args).run P w = .ok (.enter gf args) w) (ht : Nat.blt t n = true) (hit : It P gf lb pre (vs.map fun v => [v])) (H : Sep z (J 0 ++ pre) w)
    (hround : ∀ (ro : Option Nat) (i : Nat) (v : Value), vs[i]? = some v → ∀ w a, Fr n [] ((t, v) :: L) a →
      RW P ro assign (Qp (fun a1 w1 => w1 = w ∧ ∀ (F : List Asn) (w : World), Sep z (J i ++ (pre ++ F)) w → RW P ro body (Qp (fun _ w3 => Sep z (J (i + 1) ++ (pre ++ F)) w3) noX (fun _ _ => False)) a1 w) noX (fun _ _ => False)) a w)
    (K : ∀ D w', Sep z (YtanejicgmgpjcaaGreatDoor.bk D (.deferred (some [])) :: (J vs.length ++ pre)) w' → ∀ a, Fr n (mark D :: ds) L a → N a w') :
    ∀ a, Fr n ds L a → (Code.rangeFunc g #[t] assign body).wp P (Qp N X R) a w := by
  intro a hF
  refine (wpIn_wide (n := 0)).1 ?_
  refine wpIn_rangeFunc ?_
  intro fn _
  have hro : Fence.wide.round = none := rfl
  rw [hro]
  obtain ⟨W1, hW1⟩ : ∃ W1, (w.alloc (.deferred (some []))).alloc (loopRec .ready fn a.tmps t assign body w.heap.size) = W1 := ⟨_, rfl⟩
  obtain ⟨D, hD⟩ : ∃ D, D = w.heap.size := ⟨_, rfl⟩
  obtain ⟨T, hT⟩ : ∃ T : List Asn, T = [YtanejicgmgpjcaaGreatDoor.bk D (.deferred (some [])), YtanejicgmgpjcaaGreatDoor.bk (D + 1) (loopRec .ready fn a.tmps t assign body D)] := ⟨_, rfl⟩
  have H1 : Sep z (pre ++ (T ++ J 0)) W1 := by
    have h1 := H.new (b := w.heap.size) (o := .deferred (some [])) (ext_push w (.deferred (some []))) (Nat.le_refl _) (by show (w.heap.push _)[w.heap.size]? = _; simp)
    have h2 := h1.new (b := w.heap.size + 1) (o := loopRec .ready fn a.tmps t assign body w.heap.size) (ext_push _ (loopRec .ready fn a.tmps t assign body w.heap.size)) (by simp) (by
      show ((w.heap.push _).push _)[w.heap.size + 1]? = _
      rw [Array.getElem?_push, if_pos (by simp)])
    have h3 : Sep z (YtanejicgmgpjcaaGreatDoor.bk (w.heap.size + 1) (loopRec .ready fn a.tmps t assign body w.heap.size) :: YtanejicgmgpjcaaGreatDoor.bk w.heap.size (.deferred (some [])) :: (J 0 ++ pre)) W1 := hW1 ▸ h2
    have h4 := (h3.pick 2 [1, 0] rfl)
    have h5 : Sep z (T ++ (J 0 ++ pre)) W1 := by rw [hT, hD]; exact h4
    exact (Sep.swap (As := T ++ J 0) (Bs := pre) (by rw [List.append_assoc]; exact h5))
  refine ⟨w.heap.size + 1, [mark w.heap.size], W1, { target := .fn (.func gf) lb.toArray, args := #[.func (.yield (w.heap.size + 1)) #[] #[]] }, W1, gf, #[.func (.yield (w.heap.size + 1)) #[] #[]] ++ lb.toArray, W1, ?_, ?_, fun _ _ => trivial, ?_, fun q => (by cases q), ?_⟩
  · rw [← hW1]; exact run_enterLoop_outer _ _ _ _ _
  · simp only [resolve, hF.ev hg]
    simp [go_sem]
  · simp [invoke, go_sem, eg]
  · rw [← hD] at hW1 ⊢
    have back : ∀ {i : Nat} {w : World}, Sep z (pre ++ (T ++ J i)) w → Sep z (YtanejicgmgpjcaaGreatDoor.bk D (.deferred (some [])) :: YtanejicgmgpjcaaGreatDoor.bk (D + 1) (loopRec .ready fn a.tmps t assign body D) :: (J i ++ pre)) w := fun h => by
      have := h.swap
      rw [List.append_assoc, hT] at this
      exact this
    have forth : ∀ (i : Nat) (w : World), Sep z (YtanejicgmgpjcaaGreatDoor.bk D (.deferred (some [])) :: YtanejicgmgpjcaaGreatDoor.bk (D + 1) (loopRec .ready fn a.tmps t assign body D) :: (J i ++ pre)) w → Sep z (pre ++ (T ++ J i)) w := fun i w h => by
      have h' : Sep z (T ++ (J i ++ pre)) w := by rw [hT]; exact h
      exact (Sep.swap (As := T ++ J i) (Bs := pre) (by rw [List.append_assoc]; exact h'))
    have key := hit z (D + 1) (fun i => T ++ J i) ?_ W1 H1
    · refine CallsIn.mono (show CallsIn Fence.wide 0 P gf _ W1 _ from key) ?_
      rintro e w2 ⟨⟨v, rfl⟩, H2⟩
      simp only [List.length_map] at H2
      have H2 := back H2
      refine ⟨none, _, run_endLoop (H2.bk 1 rfl) (by simp), ?_⟩
      refine K D _ ?_ _ ⟨hF.size, by show [mark D] ++ a.defers = _; rw [hF.defers]; rfl, hF.get⟩
      have H3 := H2.setObj 1 (.loop { state := .exhausted, pending := none, fn, tmps := a.tmps, params := #[t], assign, body, defers := D }) rfl
      exact H3.pick 2 [0] rfl
    · intro i v hv w2 H2
      rw [List.getElem?_map] at hv
      obtain ⟨u, hu, rfl⟩ := Option.map_eq_some_iff.1 hv
      have H2 := back H2
      have hy := run_yield (P := P) (args := [u].toArray) (H2.bk 1 rfl) (by simp)
      refine ⟨fn, _, assign, body, hy, ?_⟩
      refine roundIn_of_wpIn (F := FX none) trivial ?_
      have hFr : Fr n [] ((t, u) :: L) { tmps := (((#[t] : Array Tmp).zip [u].toArray).foldl (fun tmps (x : Tmp × Value) => tmps.setIfInBounds x.1 x.2) a.tmps), defers := [] } := by
        have h0 : Fr n [] L { tmps := a.tmps, defers := [] } := ⟨hF.size, rfl, hF.get⟩
        have := h0.put t u ht
        simpa [Act.put] using this
      have hr := hround (some (D + 1)) i u hu w2 _ hFr
      refine wpIn_mono (show assign.wpIn ((FX none).inRound (D + 1)) 0 P _ _ w2 from hr) ?_
      intro e a1 w1 q
      cases e with
      | normal =>
        obtain ⟨rfl, hbody⟩ := q
        refine ⟨_, run_beginRound (H2.bk 1 rfl) rfl, ?_⟩
        have H3 := H2.setObj 1 (loopRec .busy fn a.tmps t assign body D) rfl
        have H4 : Sep z ([YtanejicgmgpjcaaGreatDoor.bk D (.deferred (some [])), YtanejicgmgpjcaaGreatDoor.bk (D + 1) (loopRec .busy fn a.tmps t assign body D)] ++ (J i ++ pre)) _ := H3
        have H5 := H4.swap
        rw [List.append_assoc] at H5
        refine wpIn_mono (show body.wpIn ((FX none).inRound (D + 1)) 0 P _ _ _ from hbody _ _ H5) ?_
        intro e a3 w3 q3
        cases e with
        | normal =>
          have H6 : Sep z (J (i + 1) ++ (pre ++ [YtanejicgmgpjcaaGreatDoor.bk D (.deferred (some [])), YtanejicgmgpjcaaGreatDoor.bk (D + 1) (loopRec .busy fn a.tmps t assign body D)])) w3 := q3
          rw [← List.append_assoc] at H6
          have H7 : Sep z (YtanejicgmgpjcaaGreatDoor.bk D (.deferred (some [])) :: YtanejicgmgpjcaaGreatDoor.bk (D + 1) (loopRec .busy fn a.tmps t assign body D) :: (J (i + 1) ++ pre)) w3 := H6.swap
          refine ⟨_, _, run_endRound none (H7.bk 1 rfl), rfl, forth _ _ ?_⟩
          exact H7.setObj 1 (loopRec .ready fn a.tmps t assign body D) rfl
        | exit id => exact q3.elim
        | ret => exact q3.elim
        | goto l => exact q3.elim
        | panic ch => exact q3.elim
        | outgrown => exact q3.elim
      | exit id => exact q.elim
      | ret => exact q.elim
      | goto l => exact q.elim
      | panic ch => exact q.elim
      | outgrown => exact q.elim

/-! ### A function that holds such a range -/
/-- what holds where it is left: with no mark, or with one whose block nobody has used -/
def DoneM (P : Program) (fn : Func) (R : Value → World → Prop) (a : Act) (w : World) : Prop :=
  (a.defers = [] ∧ ∃ v, (results fn a.tmps).run P w = .ok v w ∧ R v w) ∨ ∃ D w', a.defers = [mark D] ∧ (Instr.takeDeferred D).run P w = .ok [] w' ∧ ∃ v, (results fn a.tmps).run P w' = .ok v w' ∧ R v w'
theorem enterM {P : Program} {f : FuncId} {fn : Func} {c : Code} {args : List Value} {w : World} {R : Value → World → Prop} (hf : P.funcs[f]? = some fn) (hb : fn.body = some c) (n : Nat) (hn : fn.ntmps = n) (hlen : Nat.ble args.length n = true)
    (h : ∀ a, Fr n [] (first 0 args) a → c.wp P (Qp (DoneM P fn R) noX (DoneM P fn R)) a w) : Calls P f args.toArray w (Ret R) := by
  refine (callsIn_wide (n := 0)).1 (callsIn_of_wp_marks hf hb trivial (wpIn_mono ((wpIn_wide (n := 0)).2 (h _ (by rw [hn]; exact Fr.start args n (by simpa using hlen)))) fun e a w q => ?_) rfl)
  have fin : DoneM P fn R a w → LeavesInM Fence.wide 0 P fn a.tmps (Ret R) a.defers .returning w := fun q => by
    rcases q with ⟨hd, v, hr, hR⟩ | ⟨D, w', hd, ht, v, hr, hR⟩
    · rw [hd]; exact ⟨v, hr, hR⟩
    · rw [hd]
      exact ⟨by simp, .inl ⟨D, w', rfl, ht, v, hr, hR⟩⟩
  cases e with
  | normal => exact fin q
  | ret => exact fin q
  | exit id => exact q.elim
  | goto l => exact q.elim
  | panic ch => exact q.elim
  | outgrown => exact q.elim
theorem doneM0 {P : Program} {fn : Func} {R : Value → World → Prop} {n : Nat} {L : List (Nat × Value)} {w : World} {rs : List ResultVar} (hr : fn.results = rs.toArray) (vs : List Value) (hv : ResAll P L w rs vs) {v : Value} (he : oneOf vs = v) (h : R v w) : ∀ a, Fr n [] L a → DoneM P fn R a w := fun a hF => .inl (doneL hr vs hv he h a hF)
theorem doneM1 {P : Program} {fn : Func} {R : Value → World → Prop} {n D : Nat} {L : List (Nat × Value)} {z w : World} {Γ : List Asn} (H : Sep z (YtanejicgmgpjcaaGreatDoor.bk D (.deferred (some [])) :: Γ) w) {rs : List ResultVar} (hr : fn.results = rs.toArray) (vs : List Value) (hv : ∀ w, ResAll P L w rs vs) {v : Value} (he : oneOf vs = v) (h : ∀ w, Sep z Γ w → R v w) : ∀ a, Fr n [mark D] L a → DoneM P fn R a w := fun a hF =>
  .inr ⟨D, w.putObj D (.deferred none), hF.defers, run_takeDeferred (H.bk 0 rfl), v, by rw [← he]; exact run_results hF hr (hv _), h _ ((H.setObj 0 (.deferred none) rfl).pick 1 [] rfl)⟩
end Go.Proofs.YtanejicgmgpjcaaGreatDoor
