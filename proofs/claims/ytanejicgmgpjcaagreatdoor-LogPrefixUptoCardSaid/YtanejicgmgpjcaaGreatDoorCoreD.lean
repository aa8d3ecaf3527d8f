/-
  Operations that make or write memory, over any program. No condition.
-/
import Derived.Test.YtanejicgmgpjcaaGreatDoorCoreC
import Derived.Maps.AppendAt
import Derived.Laws.AppendOwnNone
import Derived.Laws.CopyRow
namespace Go.Proofs.YtanejicgmgpjcaaGreatDoor
open Go.RowKit

/-- What the tables say of an element's type. -/
def Elt (P : Program) (e : TypeId) (z : Value) (sz by_ : Nat) : Prop := ∃ i, P.info? e = some i ∧ i.zero = some z ∧ i.size = sz ∧ i.bytes = by_ ∧ z.cells.size = sz ∧ 0 < sz ∧ 0 < by_
theorem Elt.mk {P : Program} {e : TypeId} {z : Value} {sz by_ : Nat} (h : (P.info? e).map (fun i => (i.zero, i.size, i.bytes)) = some (some z, sz, by_)) (h1 : z.cells.size = sz) (h2 : 0 < sz) (h3 : 0 < by_) : Elt P e z sz by_ := by
  cases hi : P.info? e with
  | none => rw [hi] at h; cases h
  | some i =>
    rw [hi] at h
    simp only [Option.map_some, Option.some.injEq, Prod.mk.injEq] at h
    exact ⟨i, hi, h.1, h.2.1, h.2.2, h1, h2, h3⟩

/-- v is a slice that reads as the cells xs (n elements of sz cells) -/
def Rd (sz : Nat) (v : Value) (n : Nat) (xs : List Value) (w : World) : Prop :=
  ∃ ao c, v = .slice ao n c ∧ n ≤ c ∧ c ≤ 9223372036854775807 ∧ xs.length = n * sz ∧ ∀ j u, xs[j]? = some u → At ao j u w

/-- v is a slice of the call's own (from block B on) with room of its own; it reads as xs -/
def Own (B : Nat) (e : TypeId) (sz : Nat) (v : Value) (n : Nat) (xs : List Value) (w : World) : Prop := w.ownsRow B e sz v n xs

theorem Rd.nil (sz : Nat) (w : World) : Rd sz (.slice none 0 0) 0 [] w := ⟨none, 0, rfl, Nat.zero_le _, by omega, by simp, fun j u h => by simp at h⟩
theorem Rd.ext {F : Nat → Prop} {sz : Nat} {v : Value} {n : Nat} {xs : List Value} {w w' : World} (h : Rd sz v n xs w) (x : Ext F w w') (hf : ∀ b p l c, v = .slice (some ⟨b, p, none⟩) l c → ¬ F b) : Rd sz v n xs w' := by
  obtain ⟨ao, c, rfl, hn, hm, hl, h⟩ := h
  refine ⟨ao, c, rfl, hn, hm, hl, fun j u hj => ?_⟩
  obtain ⟨b, p, rfl, hc⟩ := h j u hj
  exact ⟨b, p, rfl, hc.ext x (hf b p _ _ rfl)⟩
theorem Rd.ext0 {sz : Nat} {v : Value} {n : Nat} {xs : List Value} {w w' : World} (h : Rd sz v n xs w) (x : Ext No w w') : Rd sz v n xs w' := h.ext x fun _ _ _ _ _ q => q

theorem Own.len {B : Nat} {e : TypeId} {sz : Nat} {v : Value} {n : Nat} {xs : List Value} {w : World} (h : Own B e sz v n xs w) : xs.length = n * sz := h.1
theorem Own.nil (B : Nat) (e : TypeId) (sz : Nat) (w : World) : Own B e sz (.slice none 0 0) 0 [] w := World.ownsRow_nil w B e sz
theorem Own.lt {B : Nat} {e : TypeId} {sz : Nat} {v : Value} {n : Nat} {xs : List Value} {w : World} (h : Own B e sz v n xs w) {k : Nat} (hk : v.ownBlock = some k) : B ≤ k ∧ k < w.heap.size := World.ownsRow.lt h k hk
theorem Own.ext {F : Nat → Prop} {B : Nat} {e : TypeId} {sz : Nat} {v : Value} {n : Nat} {xs : List Value} {w w' : World} (h : Own B e sz v n xs w) (x : Ext F w w') (hf : ∀ k, v.ownBlock = some k → ¬ F k) : Own B e sz v n xs w' := by
  obtain ⟨h1, h2⟩ := h
  refine ⟨h1, ?_⟩
  rcases h2 with h2 | ⟨g, cap, cur, hv, hb, hg, r⟩
  · exact .inl h2
  · refine .inr ⟨g, cap, cur, hv, hb, ?_, r⟩
    have : v.ownBlock = some g := by rw [hv]; rfl
    rw [x.block g (lt_of_get hg) (hf g this)]
    exact hg
theorem Own.ext0 {B : Nat} {e : TypeId} {sz : Nat} {v : Value} {n : Nat} {xs : List Value} {w w' : World} (h : Own B e sz v n xs w) (x : Ext No w w') : Own B e sz v n xs w' := h.ext x fun _ _ q => q
theorem Own.base {B B' : Nat} {e : TypeId} {sz : Nat} {v : Value} {n : Nat} {xs : List Value} {w : World} (h : Own B e sz v n xs w) (hB : B' ≤ B) : Own B' e sz v n xs w := by
  obtain ⟨h1, h2⟩ := h
  refine ⟨h1, ?_⟩
  rcases h2 with h2 | ⟨g, cap, cur, hv, hb, r⟩
  · exact .inl h2
  · exact .inr ⟨g, cap, cur, hv, by omega, r⟩
theorem Own.form {B : Nat} {e : TypeId} {sz : Nat} {v : Value} {n : Nat} {xs : List Value} {w : World} (h : Own B e sz v n xs w) : ∃ ao c, v = .slice ao n c ∧ n ≤ c := by
  rcases h.2 with ⟨hv, rfl⟩ | ⟨g, cap, cur, hv, hb, hg, hc, r⟩
  · exact ⟨none, 0, hv, Nat.le_refl _⟩
  · exact ⟨_, cap, hv, hc⟩
theorem Own.rd {B : Nat} {e : TypeId} {sz : Nat} {v : Value} {n : Nat} {xs : List Value} {w : World} (h : Own B e sz v n xs w) : Rd sz v n xs w := by
  have hl := h.len
  rcases h.2 with ⟨hv, rfl⟩ | ⟨g, cap, cur, hv, hb, hg, hc, hm, hcs, ht⟩
  · refine ⟨none, 0, hv, Nat.le_refl _, by omega, hl, fun j u hj => ?_⟩
    have : xs = [] := by simpa using hl
    subst this; simp at hj
  · refine ⟨_, cap, hv, hc, (by unfold maxLen at hm; omega), hl, fun j u hj => ⟨g, 0, rfl, ?_⟩⟩
    unfold Cel World.cell?
    rw [← ht] at hj
    rw [List.getElem?_take] at hj
    split at hj
    · simp [hg]; simpa using hj
    · cases hj

/-- a slice of ints -/
def RdI (v : Value) (xs : List Int) (w : World) : Prop := Rd 1 v xs.length (xs.map (Value.int .i64)) w
theorem RdI.ext0 {v : Value} {xs : List Int} {w w' : World} (h : RdI v xs w) (x : Ext No w w') : RdI v xs w' := Rd.ext0 h x
theorem RdI.opened {v : Value} {xs : List Int} {w : World} (h : RdI v xs w) : ∃ ao c, v = .slice ao xs.length c ∧ xs.length ≤ c ∧ c ≤ 9223372036854775807 ∧ ∀ (j : Nat) (x : Int), xs[j]? = some x → At ao j (.int .i64 x) w := by
  obtain ⟨ao, c, hv, h1, h2, _, h⟩ := h
  exact ⟨ao, c, hv, h1, h2, fun j x hj => h j _ (by simp [hj])⟩

/-- No two of them share a block. -/
def Apart (v u : Value) : Prop := ∀ k, v.ownBlock = some k → u.ownBlock ≠ some k
theorem Apart.symm {v u : Value} (h : Apart v u) : Apart u v := fun k hu hv => h k hv hu
theorem Apart.nil (u : Value) : Apart (.slice none 0 0) u := fun k h => by simp [Value.ownBlock] at h

section
variable {P : Program} {o : Oper} {a : Act} {w : World} {n : Nat} {ds : List Deferred} {L : List (Nat × Value)}

/-- a new block with these cells -/
def NewBlk (cs : List Value) (ty : TypeId) (w : World) (v : Value) (w' : World) : Prop := ∃ b, v = .pointer (some ⟨b, 0, none⟩) ∧ w.heap.size = b ∧ w'.heap.size = b + 1 ∧ Blk b cs ty w' ∧ Ext No w w'
def NewRow (cs : List Value) (ty : TypeId) (len : Nat) (w : World) (v : Value) (w' : World) : Prop := ∃ b, v = .slice (some ⟨b, 0, none⟩) len len ∧ w.heap.size = b ∧ w'.heap.size = b + 1 ∧ Blk b cs ty w' ∧ Ext No w w'

theorem ext_push (w : World) (o : Obj) : Ext No w { w with heap := w.heap.push o } := ⟨rfl, rfl, rfl, by simp, fun k hk _ => by
  show (w.heap.push o)[k]? = _
  rw [Array.getElem?_push, if_neg (by omega)]⟩
theorem new_blk (w : World) (cs : List Value) (ty : TypeId) : NewBlk cs ty w (.pointer (some ⟨w.heap.size, 0, none⟩)) { w with heap := w.heap.push (.cells cs.toArray ty) } :=
  ⟨_, rfl, rfl, by simp, by show (w.heap.push _)[w.heap.size]? = _; simp, ext_push w _⟩
theorem new_row (w : World) (cs : List Value) (ty : TypeId) (len : Nat) : NewRow cs ty len w (.slice (some ⟨w.heap.size, 0, none⟩) len len) { w with heap := w.heap.push (.cells cs.toArray ty) } :=
  ⟨_, rfl, rfl, by simp, by show (w.heap.push _)[w.heap.size]? = _; simp, ext_push w _⟩

def zeroCells (P : Program) (e : TypeId) : Option (Array Value) := ((P.info? e).bind (·.zero)).map Value.cells
theorem g_alloc {e : TypeId} {zs : List Value} (ho : o.op = .alloc e) (hz : zeroCells P e = some zs.toArray) : GoesL P n ds L o w (NewBlk zs e w) := by
  intro a hF
  refine ⟨_, _, ?_, new_blk w zs e⟩
  unfold zeroCells at hz
  cases hi : P.info? e with
  | none => rw [hi] at hz; cases hz
  | some i0 =>
    rw [hi] at hz
    simp only [Option.bind_some] at hz
    cases hq : i0.zero with
    | none => rw [hq] at hz; cases hz
    | some z =>
      rw [hq] at hz
      simp only [Option.map_some, Option.some.injEq] at hz
      simp only [execOp, ho]
      simp [Instr.alloc, zeroValue, typeInfo, hi, hq, newVar, newRow, newObj, go_sem, Sem.run]
      rw [← hz]; rfl

/-- a struct that lies in a block -/
theorem run_loadBlk {ty : TypeId} {b p : Nat} {cs vs : List Value} {t : TypeId} (ht : aggSz P ty = some vs.length) (hB : Blk b cs t w) (hv : vs = (cs.drop p).take vs.length) : (loadVar ty ⟨b, p, none⟩).run P w = .ok (.agg vs.toArray) w := by
  have hl := run_loadCells_list (P := P) w ⟨b, p, none⟩ vs (fun j u hj => by
    have := hB.part p vs.length vs hv j u hj
    have e : (Addr.add ⟨b, p, none⟩ j) = ⟨b, p + j, none⟩ := by
      unfold Addr.add; split
      · rename_i h0; simp [h0]
      · rfl
    rw [e]; exact this)
  obtain ⟨hagg, hsz⟩ := aggSz_ok ht w
  simp only [loadVar, Sem.run_bind, Sem.run_pure, Result.andThen_ok, hagg, if_true, hsz, hl]
theorem g_box {e : TypeId} {x : Operand} {v : Value} {cs : List Value} (ho : o.op = .box e x) (hx : ev L x = some v) (hc : v.cells = cs.toArray) : GoesL P n ds L o w (NewBlk cs e w) := by
  intro a hF
  refine ⟨_, _, ?_, new_blk w cs e⟩
  simp only [execOp, ho, hF.ev hx]
  simp [Instr.box, newVar, newRow, newObj, go_sem, Sem.run]
  rw [← hc]; rfl

theorem d_build {C : World → Prop} {t : TypeId} {parts : List (Nat × Operand)} {vs : List (Nat × Value)} {out : List Value} (ho : o.op = .build t parts.toArray)
    (hv : (evs L (parts.map (·.2))).map (List.zip (parts.map (·.1))) = some vs) (hf : P.built t vs = some out.toArray) : DoesL P C n ds L o (.agg out.toArray) := fun a hF w _ => by
  cases he : evs L (parts.map (·.2)) with
  | none => rw [he] at hv; cases hv
  | some us =>
    rw [he] at hv
    simp only [Option.map_some, Option.some.injEq] at hv
    have e := hF.evs he
    have : (parts.map fun x => (x.1, a.eval x.2)) = vs := by
      rw [← hv, ← e, List.map_map]
      clear hv he e hf ho
      induction parts with
      | nil => rfl
      | cons x xs ih => simp [ih]
    have hr := run_build (P := P) w t vs.toArray out.toArray (by simpa using hf)
    simp only [execOp, ho, List.map_toArray]
    rw [show (List.map (fun x => match x with | (i, x) => (i, a.eval x)) parts) = vs from this]
    simp only [Sem.run_bind, hr, Result.andThen_ok, Sem.run_pure]

/-- append onto a slice of the call's own (or nil), from any slice -/
theorem g_append {x y : Operand} {t e : TypeId} {z : Value} {sz by_ B k m : Nat} {v u : Value} {xs news : List Value} (ho : o.op = .call { callee := .builtin .append, args := #[x, y], argTypes := #[t, t] })
    (ht : P.underlying t = some (.slice e)) (hE : Elt P e z sz by_) (hx : ev L x = some v) (hy : ev L y = some u) (hown : Own B e sz v k xs w) (hsrc : Rd sz u m news w) (h1 : ∀ c ∈ news, c.oneCell' = true) (hB : B ≤ w.heap.size) (hby : (k + m) * by_ ≤ 140737488355328) :
    GoesL P n ds L o w fun v' w' => Own B e sz v' (k + m) (xs ++ news) w' ∧ Ext (fun i => v.ownBlock = some i) w w' ∧ (v'.ownBlock = v.ownBlock ∨ v'.ownBlock = some w.heap.size) := by
  intro a hF
  obtain ⟨i, hi, hz, hs, hb, hzs, hsz, hb0⟩ := hE
  obtain ⟨ao, c, rfl, hmc, _, hl, hrd⟩ := hsrc
  have hexec : ∀ r w', (Builtin.append_ #[t, t] o.type #[v, .slice ao m c]).run P w = .ok r w' → (execOp a.eval o).run P w = .ok (.value r) w' := fun r w' h => by
    simp only [execOp, ho, resolve, invoke, builtin, Sem.run_bind, Sem.run_pure, Result.andThen_ok, List.map_toArray, List.map_cons, List.map_nil, hF.ev hx, hF.ev hy, h]
  have h63 : k + m ≤ maxLen := by
    have : (k + m) * 1 ≤ (k + m) * by_ := Nat.mul_le_mul_left _ hb0
    unfold maxLen; omega
  have nonews : news = [] → ∀ v', v' = v → Own B e sz v' (k + m) (xs ++ news) w ∧ Ext (fun i => v.ownBlock = some i) w w ∧ (v'.ownBlock = v.ownBlock ∨ v'.ownBlock = some w.heap.size) := by
    intro hn v' hv'
    subst hv'
    have hm : m = 0 := by
      rw [hn] at hl
      simp only [List.length_nil] at hl
      rcases Nat.mul_eq_zero.1 hl.symm with h | h <;> omega
    subst hm
    rw [hn, List.append_nil]
    exact ⟨hown, Ext.refl _ _, .inl rfl⟩
  cases ao with
  | none =>
    have hn : news = [] := by
      cases news with
      | nil => rfl
      | cons q qs => obtain ⟨b, p, hh, _⟩ := hrd 0 q rfl; cases hh
    have hm : m = 0 := by
      rw [hn] at hl
      simp only [List.length_nil] at hl
      rcases Nat.mul_eq_zero.1 hl.symm with h | h <;> omega
    subst hm
    refine ⟨v, w, hexec _ _ ?_, nonews hn v rfl⟩
    rcases hown.2 with ⟨rfl, rfl⟩ | ⟨g, cap, cur, rfl, _, _, hnc, _⟩
    · simp [Builtin.append_, run_underlying ht, sizeOf, typeInfo, hi, Builtin.lenOf, Builtin.firstCells]
    · simp [Builtin.append_, run_underlying ht, sizeOf, typeInfo, hi, Builtin.lenOf, Builtin.firstCells, hnc, storeCells]
  | some ad =>
    have hnews : ∀ j q, news[j]? = some q → w.cell? (ad.add j) = some q := fun j q hj => by
      obtain ⟨b, p, hh, hc⟩ := hrd j q hj
      simp only [Option.some.injEq] at hh
      subst hh
      have e : (Addr.add ⟨b, p, none⟩ j) = ⟨b, p + j, none⟩ := by
        unfold Addr.add; split
        · rename_i h0; simp [h0]
        · rfl
      rw [e]; exact hc
    obtain ⟨v', w', hr, h2, h3, _, h5⟩ := run_append_own_at (P := P) w B t o.type e i z sz by_ ht hi hz hs hb hzs hsz v k xs hown ad m c news hl hnews h1 h63 hby hB
    exact ⟨v', w', hexec _ _ hr, h2, (Ext.of_grown h3).mono (fun _ _ q => q.symm), h5⟩

/-- a store into a block that is known whole: one cell, or many -/
theorem p_store {x y : Operand} {t ty : TypeId} {b p : Nat} {cs vs : List Value} {v : Value} (ho : o.op = .store t x y) (hx : ev L x = some (.pointer (some ⟨b, p, none⟩))) (hy : ev L y = some v) (hv : v.cells = vs.toArray) (h1 : ∀ u ∈ vs, u.oneCell' = true)
    (hs : (P.info? t).map (·.size) = some vs.length) (hb : Blk b cs ty w) (hp : p + vs.length ≤ cs.length) {out : List Value} (hout : cs.take p ++ vs ++ cs.drop (p + vs.length) = out) :
    PutsL P n ds L o w fun w' => Blk b out ty w' ∧ Ext (· = b) w w' ∧ w'.heap.size = w.heap.size := by
  intro a hF
  have hst := run_storeCells_at P b p ty vs 0 cs.toArray w hb (by simpa using hp) h1
  simp only [Nat.add_zero, List.toList_toArray] at hst
  rw [hout] at hst
  refine ⟨_, ?_, setRow_heap w b _ _ ty (0, 0) hb, ⟨rfl, rfl, rfl, by simp, fun k _ hk => setRow_other w b k _ hk⟩, by simp⟩
  cases hq : P.info? t with
  | none => rw [hq] at hs; cases hs
  | some i =>
    rw [hq] at hs
    simp only [Option.map_some, Option.some.injEq] at hs
    simp only [execOp, ho, hF.ev hx, hF.ev hy, Instr.storeAt, Instr.sureAddr, storeVar, sizeOf, typeInfo, Sem.run_bind, Sem.run_pure, Result.andThen_ok, hv]
    simp [hq, hs, go_sem, hst]
end
end Go.Proofs.YtanejicgmgpjcaaGreatDoor
