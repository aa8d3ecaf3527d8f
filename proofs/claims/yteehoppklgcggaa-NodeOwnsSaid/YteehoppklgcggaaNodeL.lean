/-
  Laws on slices of ints that a call makes, for the walks of package node. No condition.
-/
import Derived.Test.YteehoppklgcggaaRows
import Derived.Test.YteehoppklgcggaaNodeM
namespace Go.Proofs.Yteehoppklgcggaa
open Go.RowKit

theorem eltI : Elt Try.prog 3 (.int .i64 0) 1 8 := Elt.mk (by kernel_rfl) rfl (by omega) (by omega)
theorem tyI : Try.prog.underlying 22 = some (.slice 3) := by kernel_rfl

theorem RdI.nil0 (w : World) : RdI (.slice none 0 0) [] w := Rd.nil 1 w
theorem OwnI.base {e B B' : Nat} {v : Value} {xs : List Int} {w : World} (h : OwnI e B v xs w) (hB : B' ≤ B) : OwnI e B' v xs w := Own.base h hB
theorem OwnI.apart {e B1 B2 : Nat} {v1 v2 : Value} {xs ys : List Int} {w1 w2 : World} (h1 : OwnI e B1 v1 xs w1) (h2 : OwnI e B2 v2 ys w2) (hs : w1.heap.size ≤ B2) : Apart v1 v2 := fun k p q => by
  have a := (Own.lt h1 p).2
  have b := (Own.lt h2 q).1
  omega
theorem OwnI.nil (e B : Nat) (w : World) : OwnI e B (.slice none 0 0) [] w := Own.nil _ _ _ _
theorem OwnI.ext {F : Nat → Prop} {e B : Nat} {v : Value} {xs : List Int} {w w' : World} (h : OwnI e B v xs w) (x : Ext F w w') (hf : ∀ k, v.ownBlock = some k → ¬ F k) : OwnI e B v xs w' := Own.ext h x hf
/-- behind a write into block b, which is none of its own -/
theorem OwnI.extb {e B b : Nat} {v : Value} {xs : List Int} {w w' : World} (h : OwnI e B v xs w) (x : Ext (· = b) w w') (hb : v.ownBlock ≠ some b) : OwnI e B v xs w' := Own.ext h x fun k hk q => hb (by rw [hk, q])

theorem OwnI.extb2 {e B b c : Nat} {v : Value} {xs : List Int} {w w' : World} (h : OwnI e B v xs w) (x : Ext (fun i => i = b ∨ i = c) w w') (hb : v.ownBlock ≠ some b) (hc : v.ownBlock ≠ some c) : OwnI e B v xs w' := Own.ext h x fun k hk q => q.elim (fun q => hb (by rw [hk, q])) (fun q => hc (by rw [hk, q]))

/-- behind a write into a block that was there before -/
theorem OwnI.extn {e B b : Nat} {v : Value} {xs : List Int} {w w' : World} (h : OwnI e B v xs w) (x : Ext (· = b) w w') (hb : b < B) : OwnI e B v xs w' := Own.ext h x fun k hk q => by
  have := (Own.lt h hk).1
  omega

/-- behind a write into a row of the call's own -/
theorem Blk.extO {b : Nat} {v : Value} {cs : List Value} {ty : TypeId} {w w' : World} (h : Blk b cs ty w) (x : Ext (fun i => v.ownBlock = some i) w w') (hb : v.ownBlock ≠ some b) : Blk b cs ty w' := h.ext x hb
theorem own_ne {e B b : Nat} {v : Value} {xs : List Int} {w0 : World} (O : OwnI e B v xs w0) (hb : b < B ∨ w0.heap.size ≤ b) : v.ownBlock ≠ some b := fun q => by
  have := Own.lt O q
  omega
theorem ne_grown {v v' : Value} {b : Nat} {w : World} (h : v'.ownBlock = v.ownBlock ∨ v'.ownBlock = some w.heap.size) (hv : v.ownBlock ≠ some b) (hb : b < w.heap.size) : v'.ownBlock ≠ some b := fun q => by
  rcases h with h | h
  · exact hv (h ▸ q)
  · rw [h] at q; cases q; omega
theorem OwnI.extO {e B : Nat} {v u : Value} {ys : List Int} {w w' : World} (h : OwnI e B u ys w) (x : Ext (fun i => v.ownBlock = some i) w w') (ha : Apart v u) : OwnI e B u ys w' := Own.ext h x fun k hk q => ha k q hk
theorem Ext.transO {e B : Nat} {v : Value} {xs : List Int} {a b c w0 : World} (h : Ext No a b) (k : Ext (fun i => v.ownBlock = some i) b c) (O : OwnI e B v xs w0) (hB : a.heap.size ≤ B) : Ext No a c := h.trans_new k fun i q => by
  have := Own.lt O q
  omega
/-- a node's value, of slices that are the call's own -/
def ResN (B : Nat) (lf : Bool) (ks vs : List Int) (v : Value) (w : World) : Prop :=
  ∃ ka kc va vc, v = .agg #[.bool lf, .slice ka ks.length kc, .slice va vs.length vc] ∧ OwnI 3 B (.slice ka ks.length kc) ks w ∧ OwnI 3 B (.slice va vs.length vc) vs w ∧ Apart (.slice ka ks.length kc) (.slice va vs.length vc)

theorem RdI.get {ao : Option Addr} {n c : Nat} {xs : List Int} {w : World} (h : RdI (.slice ao n c) xs w) {j : Nat} {x : Int} (hx : xs[j]? = some x) : At ao j (.int .i64 x) w := by
  obtain ⟨a, c', e, _, _, hq⟩ := h.opened
  cases e
  exact hq j x hx
theorem OwnI.len {e B : Nat} {ao : Option Addr} {n c : Nat} {xs : List Int} {w : World} (h : OwnI e B (.slice ao n c) xs w) : n = xs.length := by
  rcases h.2 with ⟨hv, h0⟩ | ⟨g, cap, cur, hv, _⟩
  · cases hv; omega
  · cases hv; rfl
theorem ResN.mk {B : Nat} {lf : Bool} {ks vs : List Int} {ka va : Option Addr} {n m kc vc : Nat} {w : World} (h1 : OwnI 3 B (.slice ka n kc) ks w) (h2 : OwnI 3 B (.slice va m vc) vs w) (ha : Apart (.slice ka n kc) (.slice va m vc)) : ResN B lf ks vs (.agg #[.bool lf, .slice ka n kc, .slice va m vc]) w := by
  obtain rfl := h1.len
  obtain rfl := h2.len
  exact ⟨_, _, _, _, rfl, h1, h2, ha⟩
theorem ResN.cast {B : Nat} {lf : Bool} {ks vs ks' vs' : List Int} {v : Value} {w : World} (h : ResN B lf ks vs v w) (e1 : ks = ks') (e2 : vs = vs') : ResN B lf ks' vs' v w := by subst e1; subst e2; exact h
theorem castN {f : FuncId} {args : Array Value} {B : Nat} {lf : Bool} {ks vs ks' vs' : List Int} {w : World} (h : Calls Try.prog f args w (Ret fun v w' => ResN B lf ks vs v w' ∧ Ext No w w')) (e1 : ks = ks') (e2 : vs = vs') : Calls Try.prog f args w (Ret fun v w' => ResN B lf ks' vs' v w' ∧ Ext No w w') := by subst e1; subst e2; exact h
/-- two nodes share no row -/
def Ap2 (u u2 : Value) : Prop := ∀ l k v l2 k2 v2, u = .agg #[l, k, v] → u2 = .agg #[l2, k2, v2] → Apart k k2 ∧ Apart k v2 ∧ Apart v k2 ∧ Apart v v2
theorem Ap2.mk {l k v l2 k2 v2 : Value} (a : Apart k k2) (b : Apart k v2) (c : Apart v k2) (d : Apart v v2) : Ap2 (.agg #[l, k, v]) (.agg #[l2, k2, v2]) := fun _ _ _ _ _ _ e e2 => by
  cases e; cases e2; exact ⟨a, b, c, d⟩
theorem Ap2.zero {l l2 : Value} : Ap2 (.agg #[l, .slice none 0 0, .slice none 0 0]) (.agg #[l2, .slice none 0 0, .slice none 0 0]) := Ap2.mk (Apart.nil _) (Apart.nil _) (Apart.nil _) (Apart.nil _)
theorem ResN.zero (B : Nat) (w : World) : ResN B false [] [] (.agg #[.bool false, .slice none 0 0, .slice none 0 0]) w :=
  ⟨none, 0, none, 0, rfl, OwnI.nil _ _ _, OwnI.nil _ _ _, Apart.nil _⟩

section
variable {o : Oper} {w : World} {n : Nat} {ds : List Deferred} {L : List (Nat × Value)}

theorem oneI (xs : List Int) : ∀ c ∈ xs.map (Value.int .i64), c.oneCell' = true := fun c hc => by
  simp only [List.mem_map] at hc
  obtain ⟨x, _, rfl⟩ := hc
  rfl

/-- append(nil, xs[p:q]...) -/
theorem g_appendCutI {x y : Operand} {ao : Option Addr} {c p q : Nat} {ks : List Int} (ho : o.op = .call { callee := .builtin .append, args := #[x, y], argTypes := #[22, 22] })
    (hx : ev L x = some (.slice none 0 0)) (hy : ev L y = some (.slice (if c = p then ao else ao.map (·.add (p * 1))) (q - p) (c - p))) (hk : RdI (.slice ao ks.length c) ks w) (hp : p ≤ q) (hq : q ≤ ks.length) (hby : ks.length ≤ 1000000000) :
    GoesL Try.prog n ds L o w fun v' w' => ∃ g c', v' = .slice g ((ks.drop p).take (q - p)).length c' ∧ OwnI 3 w.heap.size (.slice g ((ks.drop p).take (q - p)).length c') ((ks.drop p).take (q - p)) w' ∧ Ext No w w' := by
  intro a hF
  have hr := Rd.cut hk hp hq (by omega : 0 < 1)
  have hlen : ((ks.drop p).take (q - p)).length = q - p := by simp; omega
  have e : (((ks.map (Value.int .i64)).drop (p * 1)).take ((q - p) * 1)) = ((ks.drop p).take (q - p)).map (Value.int .i64) := by simp [List.map_drop, List.map_take]
  rw [e] at hr
  obtain ⟨v', w', hrun, h2, h3⟩ := g_appendN (z := .int .i64 0) (by_ := 8) ho tyI eltI hx hy hr (oneI _) (by omega) a hF
  obtain ⟨g, c', rfl, _⟩ := Own.form h2
  rw [hlen]
  exact ⟨_, w', hrun, g, c', rfl, by unfold OwnI; rw [hlen]; exact h2, h3⟩

/-- append(xs, ys...), xs the call's own -/
theorem g_appendI {x y : Operand} {ao bo : Option Addr} {c c2 B m k : Nat} {ks ys : List Int} (ho : o.op = .call { callee := .builtin .append, args := #[x, y], argTypes := #[22, 22] })
    (hx : ev L x = some (.slice ao k c)) (hy : ev L y = some (.slice bo m c2)) (hm : m = ys.length) (hk : OwnI 3 B (.slice ao k c) ks w) (hk2 : RdI (.slice bo m c2) ys w) (hB : B ≤ w.heap.size) (hby : ks.length + ys.length ≤ 1000000000) :
    GoesL Try.prog n ds L o w fun v' w' => ∃ g c', v' = .slice g (ks ++ ys).length c' ∧ OwnI 3 B (.slice g (ks ++ ys).length c') (ks ++ ys) w' ∧ Ext (fun i => (Value.slice ao k c).ownBlock = some i) w w' ∧ ((Value.slice g (ks ++ ys).length c').ownBlock = (Value.slice ao k c).ownBlock ∨ (Value.slice g (ks ++ ys).length c').ownBlock = some w.heap.size) := by
  intro a hF
  subst hm
  obtain rfl := hk.len
  obtain ⟨v', w', hrun, h2, h3, h4⟩ := g_append (z := .int .i64 0) (by_ := 8) ho tyI eltI hx hy hk hk2 (oneI _) hB (by omega) a hF
  obtain ⟨g, c', rfl, _⟩ := Own.form h2
  rw [← List.length_append] at *
  exact ⟨_, w', hrun, g, c', rfl, by unfold OwnI; rw [List.map_append]; exact h2, h3, h4⟩
/-- what is not the row that was appended to stays apart from it -/
theorem apart_grown {v v' u : Value} {e B : Nat} {xs : List Int} {w : World} (h : v'.ownBlock = v.ownBlock ∨ v'.ownBlock = some w.heap.size) (ha : Apart v u) (hu : OwnI e B u xs w) : Apart v' u := fun k p q => by
  rcases h with h | h
  · exact ha k (h ▸ p) q
  · rw [h] at p; cases p; have := (Own.lt hu q).2; omega
theorem OwnI.at_ {e B : Nat} {ao : Option Addr} {k c : Nat} {xs : List Int} (h : OwnI e B (.slice ao k c) xs w) {j : Nat} (hj : j < xs.length) : ∃ x, At ao j (.int .i64 x) w := by
  obtain ⟨ao', c', hv, _, _, hh⟩ := h.rd.opened
  cases hv
  exact ⟨_, hh j _ (List.getElem?_eq_getElem hj)⟩
/-- xs[j] = z, xs the call's own -/
theorem p_storeI {x y : Operand} {ao : Option Addr} {B c j k : Nat} {xs : List Int} {z : Int} (ho : o.op = .store 3 x y) (hx : ev L x = some (eptr ao j)) (hy : ev L y = some (.int .i64 z)) (hO : OwnI 3 B (.slice ao k c) xs w) (hj : j < xs.length) :
    PutsL Try.prog n ds L o w fun w' => OwnI 3 B (.slice ao k c) (xs.set j z) w' ∧ Ext (fun i => (Value.slice ao k c).ownBlock = some i) w w' := by
  intro a hF
  obtain rfl := hO.len
  have hO' := hO
  rcases hO.2 with ⟨hv, h0⟩ | ⟨g, cap, cur, hv, hb, hg, hnc, hcm, hcs, ht⟩
  · omega
  · cases hv
    have hst := World.ownsRow.stored hO' j (.int .i64 z)
    have hc : w.cell? ⟨g, j, none⟩ = some (.int .i64 (xs[j]'hj)) := by
      have := World.ownsRow.cellAt hO' j (by omega)
      rw [this]; simp [hj]
    have hf := World.ownsRow.frozenAt hO' j
    refine ⟨w.setCell ⟨g, j, none⟩ (.int .i64 z), ?_, ?_, ?_⟩
    · have hx' : ev L x = some (.pointer (some ⟨g, j, none⟩)) := by rw [hx]; simp [eptr]
      have hsz : (sizeOf 3).run Try.prog w = .ok 1 w := by
        obtain ⟨i, hi, _, hs, _⟩ := eltI
        simp [sizeOf, typeInfo, hi, hs, go_sem]
      simp only [execOp, ho, hF.ev hx', hF.ev hy, Instr.storeAt, Instr.sureAddr, storeVar, Sem.run_bind, Sem.run_pure, Result.andThen_ok, hsz]
      simp [go_sem, hc, hf, Value.cells, storeCells, Addr.add]
    · have := hst.1
      unfold OwnI Own
      rw [List.length_set]
      rw [← List.map_set] at this
      exact this
    · exact Ext.of_grown hst.2 |>.mono fun k _ q => by simpa [Value.ownBlock] using q.symm
/-- [x] -/
theorem g_oneI {x : Operand} {z : Int} (ho : o.op = .buildSlice 22 1 #[(0, x)]) (hx : ev L x = some (.int .i64 z)) :
    GoesL Try.prog n ds L o w fun v' w' => ∃ b, v' = .slice (some ⟨b, 0, none⟩) 1 1 ∧ w.heap.size = b ∧ RdI (.slice (some ⟨b, 0, none⟩) 1 1) [z] w' ∧ Ext No w w' := by
  intro a hF
  obtain ⟨v', w', hr, b, rfl, hb, _, hB, x⟩ := g_buildSlice (z := .int .i64 0) (by_ := 8) (sz := 1) (len := 1) (parts := [(0, x)]) (vs := [(0, .int .i64 z)]) (out := [.int .i64 z]) ho tyI eltI (by simp [evs, hx]) (by omega) (by omega) (by kernel_rfl) a hF
  exact ⟨_, w', hr, b, rfl, hb, rd_row (len := 1) hB rfl (by omega), x⟩
end
end Go.Proofs.Yteehoppklgcggaa
