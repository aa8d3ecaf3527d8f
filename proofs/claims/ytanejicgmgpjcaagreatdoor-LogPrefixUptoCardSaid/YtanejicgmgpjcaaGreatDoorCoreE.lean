/-
  Regions that draw their order and end in operations that write (tail), or hold operations that make memory (held). Over any program. No condition.
-/
import Derived.Test.YtanejicgmgpjcaaGreatDoorCoreD
import Derived.StillTail
import Derived.Deep.RegionHeld
namespace Go.Proofs.YtanejicgmgpjcaaGreatDoor
open Go.RowKit

section more
variable {P : Program} {o : Oper} {a : Act} {w : World} {n : Nat} {ds : List Deferred} {L : List (Nat × Value)}

theorem Ext.ofNil {b c : Nat} {w w' : World} (h : Ext (fun i => (Value.slice none b c).ownBlock = some i) w w') : Ext No w w' := h.mono fun _ _ q => by simp [Value.ownBlock] at q
/-- append onto nil -/
theorem g_appendN {x y : Operand} {t e : TypeId} {z : Value} {sz by_ m : Nat} {u : Value} {news : List Value} (ho : o.op = .call { callee := .builtin .append, args := #[x, y], argTypes := #[t, t] })
    (ht : P.underlying t = some (.slice e)) (hE : Elt P e z sz by_) (hx : ev L x = some (.slice none 0 0)) (hy : ev L y = some u) (hsrc : Rd sz u m news w) (h1 : ∀ c ∈ news, c.oneCell' = true) (hby : m * by_ ≤ 140737488355328) :
    GoesL P n ds L o w fun v' w' => Own w.heap.size e sz v' m news w' ∧ Ext No w w' := by
  intro a hF
  obtain ⟨v', w', hr, h2, h3, _⟩ := g_append (B := w.heap.size) (k := 0) (xs := []) ho ht hE hx hy (Own.nil _ _ _ _) hsrc h1 (Nat.le_refl _) (by simpa using hby) a hF
  exact ⟨v', w', hr, by simpa using h2, h3.ofNil⟩
/-- a slice literal -/
theorem g_buildSlice {t : TypeId} {e : TypeId} {z : Value} {len sz by_ : Nat} {parts : List (Nat × Operand)} {vs : List (Nat × Value)} {out : List Value} (ho : o.op = .buildSlice t len parts.toArray) (ht : P.underlying t = some (.slice e)) (hE : Elt P e z sz by_)
    (hv : (evs L (parts.map (·.2))).map (List.zip (parts.map (·.1))) = some vs) (hsm : len * sz ≤ 16777216) (hl : 0 < len) (hf : Instr.fill (fun i => some (i * sz, sz)) ((Array.range (len * sz)).map (z.cells[· % z.cells.size]!)) vs = some out.toArray) : GoesL P n ds L o w (NewRow out e len w) := by
  intro a hF
  obtain ⟨i, hi, hz, hs, hb, hzs, hsz, hb0⟩ := hE
  refine ⟨_, _, ?_, new_row w out e len⟩
  cases he : evs L (parts.map (·.2)) with
  | none => rw [he] at hv; cases hv
  | some us =>
    rw [he] at hv
    simp only [Option.map_some, Option.some.injEq] at hv
    have e2 := hF.evs he
    have : (parts.map fun x => (x.1, a.eval x.2)) = vs := by
      rw [← hv, ← e2, List.map_map]
      clear hv he e2 hf ho
      induction parts with
      | nil => rfl
      | cons x xs ih => simp [ih]
    simp only [execOp, ho, List.map_toArray]
    rw [show (List.map (fun x => match x with | (i, x) => (i, a.eval x)) parts) = vs from this]
    have hne : len * sz ≠ 0 := by
      intro h0
      rcases Nat.mul_eq_zero.1 h0 with h | h <;> omega
    have hcap : ¬ len * sz > 2 ^ 24 := by omega
    have hzv : ∀ w, (zeroValue e).run P w = .ok z w := fun w => by simp [zeroValue, typeInfo, hi, hz, go_sem]
    have hso : ∀ w, (sizeOf e).run P w = .ok sz w := fun w => by simp [sizeOf, typeInfo, hi, hs, go_sem]
    simp only [Instr.buildSlice, Sem.run_bind, run_underlying ht, Result.andThen_ok, hso, if_neg hcap, Sem.run_pure, if_neg hne, hzv, hf, newRow, newObj, Sem.run]
/-- a cut of a slice that is read -/
theorem Rd.cut {sz : Nat} {ao : Option Addr} {k c p q : Nat} {xs : List Value} (h : Rd sz (.slice ao k c) k xs w) (hp : p ≤ q) (hq : q ≤ k) (hsz : 0 < sz) : Rd sz (.slice (if c = p then ao else ao.map (·.add (p * sz))) (q - p) (c - p)) (q - p) ((xs.drop (p * sz)).take ((q - p) * sz)) w := by
  obtain ⟨ao', c', hv, h1, h2, hl, h⟩ := h
  cases hv
  have hlen : ((xs.drop (p * sz)).take ((q - p) * sz)).length = (q - p) * sz := by
    rw [List.length_take, List.length_drop, hl, ← Nat.sub_mul]
    exact Nat.min_eq_left (Nat.mul_le_mul_right _ (by omega))
  refine ⟨_, _, rfl, by omega, by omega, hlen, fun j u hj => ?_⟩
  have hj' : xs[p * sz + j]? = some u := by
    rw [List.getElem?_take] at hj
    split at hj
    · rw [List.getElem?_drop] at hj; exact hj
    · cases hj
  obtain ⟨b, o', rfl, hc⟩ := h _ _ hj'
  have hjl : j < (q - p) * sz := by
    rcases Nat.lt_or_ge j ((q - p) * sz) with hh | hh
    · exact hh
    · rw [List.getElem?_eq_none (by omega)] at hj; cases hj
  have hpq : p < q := by
    rcases Nat.lt_or_ge p q with hh | hh
    · exact hh
    · have : q - p = 0 := by omega
      rw [this] at hjl; simp at hjl
  rw [if_neg (by omega)]
  refine ⟨b, o' + p * sz, ?_, by rw [Nat.add_assoc]; exact hc⟩
  simp only [Option.map_some, Addr.add]
  split
  · rename_i h0; simp [h0]
  · rfl
/-- what a new row reads as -/
theorem rd_row {sz b len : Nat} {cs : List Value} {ty : TypeId} (h : Blk b cs ty w) (hl : cs.length = len * sz) (hm : len ≤ 9223372036854775807) : Rd sz (.slice (some ⟨b, 0, none⟩) len len) len cs w :=
  ⟨_, _, rfl, Nat.le_refl _, hm, hl, fun j u hj => ⟨b, 0, rfl, h.cel (0 + j) (by simpa using hj)⟩⟩
/-- slices of ints of the call's own -/
def OwnI (e : TypeId) (B : Nat) (v : Value) (xs : List Int) (w : World) : Prop := Own B e 1 v xs.length (xs.map (Value.int .i64)) w
theorem OwnI.rd {e : TypeId} {B : Nat} {v : Value} {xs : List Int} {w : World} (h : OwnI e B v xs w) : RdI v xs w := Own.rd h
theorem OwnI.ext0 {e : TypeId} {B : Nat} {v : Value} {xs : List Int} {w w' : World} (h : OwnI e B v xs w) (x : Ext No w w') : OwnI e B v xs w' := Own.ext0 h x
end more

section tail
variable {P : Program} {ops : List Oper} {Q : Act → Prop} {a : Act} {w : World} {rest : List Oper} {o : Oper} {n d : Nat} {ds : List Deferred} {L : List (Nat × Value)} {v : Value}
theorem t_do (hw : wantL ops L o.guard = true) (hd : o.dst = some d) (hlt : Nat.blt d n = true) (hdo : DoesL P (· = w) n ds L o v) (K : ∀ a', Fr n ds ((d, v) :: L) a' → wpStill P ops.toArray w Q rest a') : ∀ a, Fr n ds L a → wpStill P ops.toArray w Q (o :: rest) a := fun a hF =>
  wpStill_step fun K' hK => by
    rw [if_pos (wantL_ok hF hw)]
    unfold Oper.still
    rw [hdo a hF w rfl, Oper.stillUpon_value, hd]
    exact hK _ (K _ (hF.put d v hlt))
theorem t_skip (hw : skipL ops L o.guard = true) (hd : o.dst = some d) (hlt : Nat.blt d n = true) (K : ∀ a', Fr n ds ((d, undef) :: L) a' → wpStill P ops.toArray w Q rest a') : ∀ a, Fr n ds L a → wpStill P ops.toArray w Q (o :: rest) a := fun a hF =>
  wpStill_step fun K' hK => by
    rw [if_neg (by rw [skipL_ok hF hw]; exact Bool.false_ne_true), hd]
    exact hK _ (K _ (hF.put d undef hlt))
theorem t_part {p : Prop} [Decidable p] (t : Nat) (ht : look L t = some (.bool (decide p))) (hy : p → ∀ a, Fr n ds ((t, .bool true) :: L) a → wpStill P ops.toArray w Q (o :: rest) a) (hn : ¬ p → ∀ a, Fr n ds ((t, .bool false) :: L) a → wpStill P ops.toArray w Q (o :: rest) a) : ∀ a, Fr n ds L a → wpStill P ops.toArray w Q (o :: rest) a := by
  intro a hF
  by_cases h : p
  · exact hy h a (hF.upd t ht (by simp [h]))
  · exact hn h a (hF.upd t ht (by simp [h]))
theorem t_part_b {b : Bool} (t : Nat) (ht : look L t = some (.bool b)) (hy : b = true → ∀ a, Fr n ds ((t, .bool true) :: L) a → wpStill P ops.toArray w Q (o :: rest) a) (hn : b = false → ∀ a, Fr n ds ((t, .bool false) :: L) a → wpStill P ops.toArray w Q (o :: rest) a) : ∀ a, Fr n ds L a → wpStill P ops.toArray w Q (o :: rest) a := by
  intro a hF
  cases b with
  | true => exact hy rfl a (hF.upd t ht rfl)
  | false => exact hn rfl a (hF.upd t ht rfl)
theorem t_end (h : ∀ a, Fr n ds L a → Q a) : ∀ a, Fr n ds L a → wpStill P ops.toArray w Q [] a := h
/-- a region whose operations from number k on are its tail -/
theorem t_region {id : Nat} {N R : Act → World → Prop} {X : Nat → Act → World → Prop} (k : Nat) (hm : P.follows .mixedOrders = true) (hB : Region.lexTailB .any ops.toArray k = true)
    (h : ∀ w', Ext No w w' → w'.heap.size = w.heap.size → ∀ a, Fr n ds L a → wpStill P ops.toArray w' (fun a' => wpList P ops.toArray (Qp N X R) (ops.drop k) a' w') (ops.take k) a) : ∀ a, Fr n ds L a → (Code.region id ops.toArray true).wp P (Qp N X R) a w := fun a hF =>
  wp_region_still_tail k hm hB (h _ (Ext.drawn No w) rfl a hF)
end tail

section held
variable {P : Program} {ops : List Oper} {N R : Act → World → Prop} {X : Nat → Act → World → Prop} {S : World → Prop} {a : Act} {w : World} {fuel : Nat} {listed : Array Bool} {n d i : Nat} {ds : List Deferred} {L : List (Nat × Value)} {v : Value} {o : Oper}

theorem a_region {id : Nat} (S : World → Prop) (k : Nat) (hk : ops.length = k) (hm : P.follows .mixedOrders = true)
    (h : ∀ w', Ext No w w' → w'.heap.size = w.heap.size → ∀ a, Fr n ds L a → wpAnyH P .any ops.toArray (Qp N X R) S k (Array.replicate k false) a w') : ∀ a, Fr n ds L a → (Code.region id ops.toArray true).wp P (Qp N X R) a w := fun a hF =>
  wp_region_held (S := S) hm (by have := h _ (Ext.drawn No w) rfl a hF; simpa [hk] using this)

/-- an operation that only reads is taken first -/
theorem a_do (i : Nat) (hi : ops[i]? = some o) (hs : Region.noSelect ops.toArray = true) (hf : Region.free .any ops.toArray listed i = true) (hr : (Region.ready .any ops.toArray listed).contains i = true)
    (hw : wantL ops L o.guard = true) (hd : o.dst = some d) (hlt : Nat.blt d n = true) (hdo : DoesL P S n ds L o v) (hS : S w)
    (K : ∀ a', Fr n ds ((d, v) :: L) a' → wpAnyH P .any ops.toArray (Qp N X R) S fuel (listed.setIfInBounds i true) a' w) : ∀ a, Fr n ds L a → wpAnyH P .any ops.toArray (Qp N X R) S (fuel + 1) listed a w := fun a hF =>
  wpAnyH_take (i := i) (oi := o) (v := v) (by simpa using hi) hs hf hr (fun _ _ _ h => h.elim) (.inl ⟨wantL_ok hF hw, fun w' h => hdo a hF w' h⟩) hS (by rw [hd]; exact K _ (hF.put d v hlt))
theorem a_skip (i : Nat) (hi : ops[i]? = some o) (hs : Region.noSelect ops.toArray = true) (hf : Region.free .any ops.toArray listed i = true) (hr : (Region.ready .any ops.toArray listed).contains i = true)
    (hw : skipL ops L o.guard = true) (hd : o.dst = some d) (hlt : Nat.blt d n = true) (hS : S w)
    (K : ∀ a', Fr n ds ((d, undef) :: L) a' → wpAnyH P .any ops.toArray (Qp N X R) S fuel (listed.setIfInBounds i true) a' w) : ∀ a, Fr n ds L a → wpAnyH P .any ops.toArray (Qp N X R) S (fuel + 1) listed a w := fun a hF =>
  wpAnyH_take (i := i) (oi := o) (v := undef) (by simpa using hi) hs hf hr (fun _ _ _ h => h.elim) (.inr ⟨skipL_ok hF hw, rfl⟩) hS (by rw [hd]; exact K _ (hF.put d undef hlt))
/-- these may come up next -/
theorem a_all (rs : List Nat) (hr : Region.ready .any ops.toArray listed = rs) (hne : rs ≠ [])
    (h : ∀ i ∈ rs, ∀ a, Fr n ds L a → wpOp P ops.toArray (Qp N X R) i (fun a' w' => S w' ∧ wpAnyH P .any ops.toArray (Qp N X R) S fuel (listed.setIfInBounds i true) a' w') a w) : ∀ a, Fr n ds L a → wpAnyH P .any ops.toArray (Qp N X R) S (fuel + 1) listed a w := fun a hF =>
  wpAnyH_all hr hne (fun i hi => h i hi a hF)
theorem all1 {p : Nat → Prop} {i : Nat} (h : p i) : ∀ j ∈ [i], p j := fun j hj => by simp at hj; subst hj; exact h
theorem all2 {p : Nat → Prop} {i k : Nat} (h : p i) (h' : p k) : ∀ j ∈ [i, k], p j := fun j hj => by
  simp at hj
  rcases hj with rfl | rfl
  · exact h
  · exact h'
theorem a_done {fuel : Nat} (hr : Region.ready .any ops.toArray listed = []) (h : ∀ a, Fr n ds L a → N a w) : ∀ a, Fr n ds L a → wpAnyH P .any ops.toArray (Qp N X R) S fuel listed a w := fun a hF => wpAnyH_done hr (h a hF) _
/-- behind an operation that was carried out -/
theorem a_and {Z : Act → World → Prop} (hS : S w) (h : ∀ a, Fr n ds L a → Z a w) : ∀ a, Fr n ds L a → S w ∧ Z a w := fun a hF => ⟨hS, h a hF⟩
theorem o_go {K : Act → World → Prop} {Rr : Value → World → Prop} (hi : ops[i]? = some o) (hw : wantL ops L o.guard = true) (hd : o.dst = some d) (hlt : Nat.blt d n = true) (h : GoesL P n ds L o w Rr) (hK : ∀ v w', Rr v w' → ∀ a', Fr n ds ((d, v) :: L) a' → K a' w') : ∀ a, Fr n ds L a → wpOp P ops.toArray (Qp N X R) i K a w := by
  intro a hF
  obtain ⟨v, w', hr, hR⟩ := h a hF
  unfold wpOp
  rw [List.getElem?_toArray, hi]
  simp only
  rw [if_pos (wantL_ok hF hw)]
  left
  unfold Oper.wp
  rw [hr, Oper.upon_value, hd]
  exact hK v w' hR _ (hF.put d v hlt)
theorem o_put {K : Act → World → Prop} {Rr : World → Prop} (hi : ops[i]? = some o) (hw : wantL ops L o.guard = true) (hd : o.dst = none) (h : PutsL P n ds L o w Rr) (hK : ∀ w', Rr w' → ∀ a, Fr n ds L a → K a w') : ∀ a, Fr n ds L a → wpOp P ops.toArray (Qp N X R) i K a w := by
  intro a hF
  obtain ⟨w', hr, hR⟩ := h a hF
  unfold wpOp
  rw [List.getElem?_toArray, hi]
  simp only
  rw [if_pos (wantL_ok hF hw)]
  left
  unfold Oper.wp
  rw [hr, Oper.upon_skip, hd]
  exact hK w' hR a hF
theorem o_call {K : Act → World → Prop} {Rr : Value → World → Prop} {f : FuncId} {args : List Operand} {vs : List Value} {tys : Array TypeId} (hi : ops[i]? = some o) (hw : wantL ops L o.guard = true) (hd : o.dst = some d) (hlt : Nat.blt d n = true)
    (ho : o.op = .call { callee := .value (.func f), args := args.toArray, argTypes := tys }) (hargs : evs L args = some vs) (hr : ∀ w, (callFunc f vs.toArray).run P w = .ok (.enter f vs.toArray) w) (h : Calls P f vs.toArray w (Ret Rr))
    (hK : ∀ v w', Rr v w' → ∀ a', Fr n ds ((d, v) :: L) a' → K a' w') : ∀ a, Fr n ds L a → wpOp P ops.toArray (Qp N X R) i K a w := by
  intro a hF
  have hrun : (execOp a.eval o).run P w = .ok (.enter f vs.toArray) w := by
    unfold execOp
    have e := hF.evs hargs
    simp only [ho, resolve, Act.eval, Deferred.ofValue, invoke]
    simp only [go_sem, List.map_toArray, e, List.nil_append, List.append_nil, hr]
    simpa using hr w
  unfold wpOp
  rw [List.getElem?_toArray, hi]
  simp only
  rw [if_pos (wantL_ok hF hw)]
  left
  unfold Oper.wp
  rw [hrun, Oper.upon_enter]
  exact Calls.mono h fun e w' q => by
    cases e with
    | returned v => simp only [hd]; exact hK v w' q _ (hF.put d v hlt)
    | panicked c => exact q.elim
    | outgrown => exact q.elim
end held
/-! ## Held, but for the last operation: it waits for all others, and may write what the others read. -/
section last
variable {P : Program} {ops : Array Oper} {Q : Exit → Act → World → Prop} {S : World → Prop}
/-- what was carried out waits for nothing -/
def Dc (ops : Array Oper) (listed : Array Bool) : Prop := ∀ k o, ops[k]? = some o → listed.getD k true = true → k < listed.size → ∀ e ∈ o.after, Region.binds .any e = true → listed.getD e.on false = true
theorem Dc.start (ops : Array Oper) (k : Nat) : Dc ops (Array.replicate k false) := fun j o _ h hl => by
  simp at hl
  simp [Array.getD, hl] at h
theorem Dc.next {listed : Array Bool} {i : Nat} (h : Dc ops listed) (hi : i ∈ Region.ready .any ops listed) : Dc ops (listed.setIfInBounds i true) := fun k o ho hk hl e he hb => by
  have hsz : k < listed.size := by simpa using hl
  by_cases hki : k = i
  · subst hki
    obtain ⟨_, o', ho', hall⟩ := mem_ready.1 hi
    rw [ho] at ho'; cases ho'
    have := hall e he hb
    by_cases hei : e.on = k
    · rw [hei]; simp [hsz]
    · rw [getD_set_ne false (Ne.symm hei)]; exact this
  · rw [getD_set_ne true (Ne.symm hki)] at hk
    have := h k o ho hk hsz e he hb
    by_cases hei : e.on = i
    · rw [hei]
      rcases Nat.lt_or_ge i listed.size with h' | h'
      · simp [h']
      · rw [hei] at this; simp [Array.getElem?_eq_none h'] at this
    · rw [getD_set_ne false (Ne.symm hei)]; exact this

/-- each operation but the last has one behind it that waits for it -/
def lastB (ops : Array Oper) : Bool := (List.range (ops.size - 1)).all fun k => (List.range ops.size).any fun j => k < j && (match ops[j]? with | some o => o.after.any fun e => Region.binds .any e && e.on == k | none => false)
theorem lastB_spec (h : lastB ops = true) (k : Nat) (hk : k + 1 < ops.size) : ∃ j o, k < j ∧ ops[j]? = some o ∧ ∃ e ∈ o.after, Region.binds .any e = true ∧ e.on = k := by
  simp only [lastB, List.all_eq_true, List.mem_range] at h
  have := h k (by omega)
  simp only [List.any_eq_true, List.mem_range, Bool.and_eq_true, decide_eq_true_eq] at this
  obtain ⟨j, _, hkj, hm⟩ := this
  cases ho : ops[j]? with
  | none => rw [ho] at hm; cases hm
  | some o =>
    rw [ho] at hm
    simp only [Array.any_eq_true] at hm
    obtain ⟨q, hq, he⟩ := hm
    simp only [Bool.and_eq_true, beq_iff_eq] at he
    exact ⟨j, o, hkj, ho, _, Array.getElem_mem hq, he.1, he.2⟩
/-- where the last one is ready all others have come -/
theorem last_waits (h : lastB ops = true) {listed : Array Bool} (hd : Dc ops listed) (hs : listed.size = ops.size) (hl : ops.size - 1 ∈ Region.ready .any ops listed) : ∀ n k, ops.size - k ≤ n → k + 1 < ops.size → listed.getD k false = true := by
  intro n
  induction n with
  | zero => intro k hk hk'; omega
  | succ n ih =>
    intro k hk hk'
    obtain ⟨j, o, hkj, ho, e, he, hb, hon⟩ := lastB_spec h k hk'
    have hj : j < ops.size := (Array.getElem?_eq_some_iff.1 ho).1
    by_cases hjl : j = ops.size - 1
    · subst hjl
      obtain ⟨_, o', ho', hall⟩ := mem_ready.1 hl
      rw [ho] at ho'; cases ho'
      rw [← hon]; exact hall e he hb
    · have := ih j (by omega) (by omega)
      rw [← hon]
      exact hd j o ho (by
        have hh : j < listed.size := by omega
        simp [hh] at this ⊢; exact this) (by omega) e he hb

def wpAnyK (P : Program) (ops : Array Oper) (Q : Exit → Act → World → Prop) (S : World → Prop) : Nat → Array Bool → Act → World → Prop
  | 0, listed, a, w => Region.ready .any ops listed = [] ∧ Q .normal a w
  | fuel + 1, listed, a, w =>
    (Region.ready .any ops listed = [] → Q .normal a w) ∧
    ∀ i ∈ Region.ready .any ops listed, wpOp P ops Q i (fun a' w' => (i ≠ ops.size - 1 → S w') ∧ wpAnyK P ops Q S fuel (listed.setIfInBounds i true) a' w') a w
theorem wpAny_of_K : ∀ (fuel : Nat) (listed : Array Bool) (a : Act) (w : World), wpAnyK P ops Q S fuel listed a w → wpAny P .any ops Q fuel listed a w
  | 0, _, _, _, h => h
  | fuel + 1, _, _, _, h => ⟨h.1, fun i hi => wpOp_mono (fun a' w' h' => wpAny_of_K fuel _ a' w' h'.2) (h.2 i hi)⟩
theorem wpAnyK_first (hlast : lastB ops = true) {i : Nat} {oi : Oper} {v : Value} (hi : ops[i]? = some oi) (hil : i ≠ ops.size - 1) (hsel : ∀ (j : Nat) (o : Oper) cs b, ops[j]? = some o → o.op ≠ .select cs b)
    (hQ : ∀ c a w, Q (.panic c) (a.put oi.dst v) w → Q (.panic c) a w) :
    ∀ (fuel : Nat) (listed : Array Bool) (a : Act) (w : World), Dc ops listed → listed.size = ops.size →
      (∀ j oj, ops[j]? = some oj → j ≠ i → listed.getD j true = false → (∀ e ∈ oj.after, Region.binds .any e = true → e.on ≠ i) → oi.apart ops oj = true) →
      i ∈ Region.ready .any ops listed → YieldsIf P ops S oi v a → S w →
      wpAnyK P ops Q S fuel (listed.setIfInBounds i true) (a.put oi.dst v) w → wpAnyK P ops Q S (fuel + 1) listed a w := by
  have hib : i < ops.size := (Array.getElem?_eq_some_iff.1 hi).1
  intro fuel
  induction fuel with
  | zero =>
    intro listed a w hd hsz _ hr hy hS H
    refine ⟨fun h => (by rw [h] at hr; cases hr), fun j hj => ?_⟩
    by_cases hji : j = i
    · subst hji; exact hy.wpOp hi hS ⟨fun _ => hS, H⟩
    · have := ready_mono hj hji
      rw [H.1] at this
      cases this
  | succ fuel ih =>
    intro listed a w hd hsz hfree hr hy hS H
    refine ⟨fun h => (by rw [h] at hr; cases hr), fun j hj => ?_⟩
    by_cases hji : j = i
    · subst hji; exact hy.wpOp hi hS ⟨fun _ => hS, H⟩
    · have h1 := H.2 j (ready_mono hj hji)
      have hjl : j ≠ ops.size - 1 := fun e => by
        subst e
        have := last_waits hlast hd hsz hj (ops.size - i) i (Nat.le_refl _) (by omega)
        have h0 := (mem_ready.1 hr).1
        have hh : i < listed.size := by omega
        simp [hh] at this h0
        rw [this] at h0; cases h0
      obtain ⟨hjun, oj, hoj, hall⟩ := mem_ready.1 hj
      have hnot : ∀ e ∈ oj.after, Region.binds .any e = true → e.on ≠ i := fun e he hb heq => by
        have h1 := hall e he hb
        have h0 := (mem_ready.1 hr).1
        rw [heq] at h1
        rcases Nat.lt_or_ge i listed.size with h' | h'
        · simp [h'] at h0 h1; rw [h0] at h1; cases h1
        · simp [Array.getElem?_eq_none h'] at h1
      have h2 := wpOp_putIf hoj (hfree j oj hoj hji hjun hnot) (fun cs b => hsel i oi cs b hi) (fun cs b => hsel j oj cs b hoj) hQ hy h1
      have hfree' : ∀ k ok, ops[k]? = some ok → k ≠ i → (listed.setIfInBounds j true).getD k true = false →
          (∀ e ∈ ok.after, Region.binds .any e = true → e.on ≠ i) → oi.apart ops ok = true := fun k ok hk hki hun hno => by
        refine hfree k ok hk hki ?_ hno
        by_cases hjk : j = k
        · subst hjk; exact hjun
        · rw [getD_set_ne true hjk] at hun; exact hun
      refine wpOp_mono (fun a' w' h3 => ⟨fun _ => h3.2.1 hjl, ih (listed.setIfInBounds j true) a' w' (hd.next hj) (by simpa using hsz) hfree' (ready_mono hr (Ne.symm hji)) h3.1 (h3.2.1 hjl) ?_⟩) h2
      rw [Array.setIfInBounds_comm _ _ hji]
      exact h3.2.2
theorem wpAnyK_done {listed : Array Bool} {a : Act} {w : World} (hr : Region.ready .any ops listed = []) (h : Q .normal a w) : ∀ fuel, wpAnyK P ops Q S fuel listed a w
  | 0 => ⟨hr, h⟩
  | _ + 1 => ⟨fun _ => h, by rw [hr]; simp⟩
end last
section last2
variable {P : Program} {ops : List Oper} {N R : Act → World → Prop} {X : Nat → Act → World → Prop} {S : World → Prop} {a : Act} {w : World} {fuel : Nat} {listed : Array Bool} {n d i : Nat} {ds : List Deferred} {L : List (Nat × Value)} {v : Value} {o : Oper}
/-- the walk's state: Dc and the size beside it -/
def AnyK (P : Program) (ops : List Oper) (Q : Exit → Act → World → Prop) (S : World → Prop) (fuel : Nat) (listed : Array Bool) (a : Act) (w : World) : Prop := Dc ops.toArray listed → listed.size = ops.length → wpAnyK P ops.toArray Q S fuel listed a w
theorem l_region {id : Nat} (S : World → Prop) (k : Nat) (hk : ops.length = k) (hm : P.follows .mixedOrders = true)
    (h : ∀ w', Ext No w w' → w'.heap.size = w.heap.size → ∀ a, Fr n ds L a → AnyK P ops (Qp N X R) S k (Array.replicate k false) a w') : ∀ a, Fr n ds L a → (Code.region id ops.toArray true).wp P (Qp N X R) a w := fun a hF =>
  wp_region_any hm (wpAny_of_K (S := S) _ _ _ _ (by have := h _ (Ext.drawn No w) rfl a hF (Dc.start _ _) (by simp [hk]); simpa [hk] using this))
theorem l_do (i : Nat) (hlast : lastB ops.toArray = true) (hi : ops[i]? = some o) (hil : Nat.beq i (ops.length - 1) = false) (hs : Region.noSelect ops.toArray = true) (hf : Region.free .any ops.toArray listed i = true) (hr : (Region.ready .any ops.toArray listed).contains i = true)
    (hw : wantL ops L o.guard = true) (hd : o.dst = some d) (hlt : Nat.blt d n = true) (hdo : DoesL P S n ds L o v) (hS : S w)
    (K : ∀ a', Fr n ds ((d, v) :: L) a' → AnyK P ops (Qp N X R) S fuel (listed.setIfInBounds i true) a' w) : ∀ a, Fr n ds L a → AnyK P ops (Qp N X R) S (fuel + 1) listed a w := fun a hF hdc hsz =>
  have hi' : ops.toArray[i]? = some o := by simpa using hi
  have hr' : i ∈ Region.ready .any ops.toArray listed := by simpa using hr
  wpAnyK_first hlast (i := i) (oi := o) (v := v) hi' (by simpa using Nat.ne_of_beq_eq_false hil) (Region.noSelect_spec hs) (fun _ _ _ h => h.elim) fuel listed a w hdc (by simpa using hsz) (Region.free_spec hi' hf) hr' (.inl ⟨wantL_ok hF hw, fun w' h => hdo a hF w' h⟩) hS
    (by rw [hd]; exact K _ (hF.put d v hlt) (hdc.next hr') (by simpa using hsz))
theorem l_all (rs : List Nat) (hr : Region.ready .any ops.toArray listed = rs) (hne : rs ≠ [])
    (h : ∀ i ∈ rs, ∀ a, Fr n ds L a → wpOp P ops.toArray (Qp N X R) i (fun a' w' => (i ≠ ops.length - 1 → S w') ∧ AnyK P ops (Qp N X R) S fuel (listed.setIfInBounds i true) a' w') a w) : ∀ a, Fr n ds L a → AnyK P ops (Qp N X R) S (fuel + 1) listed a w := fun a hF hdc hsz =>
  ⟨fun e => absurd (hr ▸ e) hne, fun i hi => wpOp_mono (fun a' w' q => ⟨by simpa using q.1, q.2 (hdc.next hi) (by simpa using hsz)⟩) (h i (hr ▸ hi) a hF)⟩
theorem l_done {fuel : Nat} (hr : Region.ready .any ops.toArray listed = []) (h : ∀ a, Fr n ds L a → N a w) : ∀ a, Fr n ds L a → AnyK P ops (Qp N X R) S fuel listed a w := fun a hF _ _ => wpAnyK_done hr (h a hF) _
theorem l_and {q : Prop} {Z : Act → World → Prop} (hS : q → S w) (h : ∀ a, Fr n ds L a → Z a w) : ∀ a, Fr n ds L a → (q → S w) ∧ Z a w := fun a hF => ⟨hS, h a hF⟩
end last2
end Go.Proofs.YtanejicgmgpjcaaGreatDoor
