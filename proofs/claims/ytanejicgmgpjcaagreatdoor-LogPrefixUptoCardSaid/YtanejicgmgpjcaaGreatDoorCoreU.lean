/-
  Slices, copies, strings, maps over memory in parts. Over any program. No condition.
-/
import Derived.Test.YtanejicgmgpjcaaGreatDoorCoreT
import Derived.Laws.IdiomStrings
import Derived.Laws.BytesArg
import Derived.Laws.OwnMore
namespace Go.Proofs.YtanejicgmgpjcaaGreatDoor
open Go.RowKit

/-! ### Reading a part -/
def celH (h : Hp) (b o : Nat) (v : Value) : Prop := ∃ cs ty fr, h b = some (.cells cs ty fr) ∧ cs[o]? = some v
def subH (h h' : Hp) : Prop := ∀ k o, h k = some o → h' k = some o
theorem celH.le {h h' : Hp} {b o : Nat} {v : Value} (c : celH h b o v) (s : subH h h') : celH h' b o v := by
  obtain ⟨cs, ty, fr, h1, h2⟩ := c
  exact ⟨cs, ty, fr, s _ _ h1, h2⟩
theorem celH.cel {h : Hp} {b o : Nat} {v : Value} {w : World} (c : celH h b o v) (s : subH h (hp w)) : Cel b o v w := by
  obtain ⟨cs, ty, fr, h1, h2⟩ := c.le s
  have h1' : w.heap[b]? = some (.cells cs ty fr) := h1
  unfold Cel World.cell?
  simp [h1', h2]
/-- v is a slice that reads as n elements, the cells xs -/
def rdH (sz : Nat) (v : Value) (n : Nat) (xs : List Value) (h : Hp) : Prop :=
  ∃ ao c, v = .slice ao n c ∧ n ≤ c ∧ c ≤ 9223372036854775807 ∧ xs.length = n * sz ∧ ∀ (j : Nat) (u : Value), xs[j]? = some u → ∃ b p, ao = some ⟨b, p, none⟩ ∧ celH h b (p + j) u
theorem rdH.le {sz : Nat} {v : Value} {n : Nat} {xs : List Value} {h h' : Hp} (r : rdH sz v n xs h) (s : subH h h') : rdH sz v n xs h' := by
  obtain ⟨ao, c, e, h1, h2, h3, h4⟩ := r
  exact ⟨ao, c, e, h1, h2, h3, fun j u hj => by obtain ⟨b, p, e, hc⟩ := h4 j u hj; exact ⟨b, p, e, hc.le s⟩⟩
theorem rdH.rd {sz : Nat} {v : Value} {n : Nat} {xs : List Value} {h : Hp} {w : World} (r : rdH sz v n xs h) (s : subH h (hp w)) : Rd sz v n xs w := by
  obtain ⟨ao, c, e, h1, h2, h3, h4⟩ := r
  exact ⟨ao, c, e, h1, h2, h3, fun j u hj => by obtain ⟨b, p, e, hc⟩ := h4 j u hj; exact ⟨b, p, e, hc.cel s⟩⟩
theorem rdH.small {sz : Nat} {v : Value} {n : Nat} {xs : List Value} {h : Hp} (r : rdH sz v n xs h) : n ≤ 9223372036854775807 := by
  obtain ⟨ao, c, e, h1, h2, _⟩ := r; omega
theorem rdH.nil (sz : Nat) (h : Hp) : rdH sz (.slice none 0 0) 0 [] h := ⟨none, 0, rfl, Nat.le_refl _, by omega, by simp, fun j u hj => by simp at hj⟩
theorem blk.celH {b : Nat} {cs : List Value} {ty : TypeId} {h : Hp} (hb : blk b cs ty h) (o : Nat) {v : Value} (hv : cs[o]? = some v) : celH h b o v := ⟨_, _, _, hb, by simpa using hv⟩
/-- a slice of a block -/
theorem blk.rd {b off l c sz : Nat} {cs xs : List Value} {ty : TypeId} {h : Hp} (hb : blk b cs ty h) (hlc : l ≤ c) (hc : c ≤ 9223372036854775807) (hl : off + l * sz ≤ cs.length) (hx : (cs.drop off).take (l * sz) = xs) : rdH sz (.slice (some ⟨b, off, none⟩) l c) l xs h := by
  subst hx
  refine ⟨_, _, rfl, hlc, hc, by simp; omega, fun j u hj => ⟨b, off, rfl, hb.celH _ ?_⟩⟩
  rw [List.getElem?_take] at hj
  split at hj
  · rw [List.getElem?_drop] at hj; exact hj
  · cases hj

section
variable {P : Program} {C : World → Prop} {o : Oper} {a : Act} {w z : World} {Γ : List Asn} {n : Nat} {ds : List Deferred} {L : List (Nat × Value)} {v : Value} {x y : Operand} {xt yt : TypeId} {A : Asn}

theorem Sep.get' (i : Nat) (H : Sep z Γ w) (hA : Γ[i]? = some A) : ∃ h, A h ∧ subH h (hp w) := H.get i hA
theorem Sep.rd (i : Nat) (H : Sep z Γ w) (hA : Γ[i]? = some A) {sz m : Nat} {u : Value} {xs : List Value} (hr : ∀ h, A h → rdH sz u m xs h) : Rd sz u m xs w := by
  obtain ⟨h, h1, h2⟩ := H.get' i hA
  exact (hr h h1).rd h2
theorem Sep.cell (i : Nat) (H : Sep z Γ w) (hA : Γ[i]? = some A) {b p : Nat} {u : Value} (hr : ∀ h, A h → celH h b p u) : Cel b p u w := by
  obtain ⟨h, h1, h2⟩ := H.get' i hA
  exact (hr h h1).cel h2
/-- what a part says -/
theorem Sep.says (i : Nat) (H : Sep z Γ w) (hA : Γ[i]? = some A) {p : Prop} (hr : ∀ h, A h → p) : p := by
  obtain ⟨h, h1, _⟩ := H.get' i hA
  exact hr h h1

/-! ### A slice of the call's own that may grow -/
def grow (e : TypeId) (sz : Nat) (v : Value) (n : Nat) (xs : List Value) : Asn := fun h => xs.length = n * sz ∧
  ((v = .slice none 0 0 ∧ n = 0) ∨ ∃ g cap cur, v = .slice (some ⟨g, 0, none⟩) n cap ∧ h g = some (.cells cur e (0, 0)) ∧ n ≤ cap ∧ cap ≤ maxLen ∧ cur.size = cap * sz ∧ cur.toList.take (n * sz) = xs)
theorem grow.form {e : TypeId} {sz m : Nat} {u : Value} {xs : List Value} {h : Hp} (g : grow e sz u m xs h) : (u = .slice none 0 0 ∧ m = 0) ∨ ∃ b c, u = .slice (some ⟨b, 0, none⟩) m c ∧ m ≤ c := by
  rcases g.2 with g | ⟨b, c, cur, hv, _, hc, _⟩
  · exact .inl g
  · exact .inr ⟨b, c, hv, hc⟩
theorem grow.len {e : TypeId} {sz m : Nat} {u : Value} {xs : List Value} {h : Hp} (g : grow e sz u m xs h) : xs.length = m * sz := g.1
theorem grow.nil (e : TypeId) (sz : Nat) (h : Hp) : grow e sz (.slice none 0 0) 0 [] h := ⟨by simp, .inl ⟨rfl, rfl⟩⟩
theorem grow.rd {e : TypeId} {sz m : Nat} {u : Value} {xs : List Value} {h : Hp} (g : grow e sz u m xs h) : rdH sz u m xs h := by
  have hl := g.1
  rcases g.2 with ⟨rfl, rfl⟩ | ⟨b, cap, cur, rfl, hg, hc, hm, hs, ht⟩
  · have : xs = [] := by simpa using hl
    subst this; exact rdH.nil sz h
  · refine ⟨_, cap, rfl, hc, (by unfold maxLen at hm; omega), hl, fun j u hj => ⟨b, 0, rfl, _, _, _, hg, ?_⟩⟩
    rw [← ht] at hj
    rw [List.getElem?_take] at hj
    split at hj
    · simpa using hj
    · cases hj
theorem grow.own {e : TypeId} {sz m : Nat} {u : Value} {xs : List Value} {h : Hp} (g : grow e sz u m xs h) (s : subH h (hp w)) : Own 0 e sz u m xs w := by
  refine ⟨g.1, ?_⟩
  rcases g.2 with g | ⟨b, cap, cur, hv, hg, r⟩
  · exact .inl g
  · exact .inr ⟨b, cap, cur, hv, Nat.zero_le _, s _ _ hg, r⟩
/-- a new part that needs no memory -/
theorem Sep.void {B : Asn} (H : Sep z Γ w) (hB : ∀ h, B h) : Sep z (B :: Γ) w := H.grow (Ext.refl No w) (hB _)
theorem Sep.nilg (H : Sep z Γ w) (e : TypeId) (sz : Nat) : Sep z (YtanejicgmgpjcaaGreatDoor.grow e sz (.slice none 0 0) 0 [] :: Γ) w := H.void fun h => grow.nil e sz h
/-- a new block as a slice of the call's own -/
theorem blk.grow {b k c sz : Nat} {cs xs : List Value} {ty : TypeId} {h : Hp} (hb : blk b cs ty h) (hkc : k ≤ c) (hc : c ≤ 9223372036854775807) (hl : cs.length = c * sz) (hx : cs.take (k * sz) = xs) : grow ty sz (.slice (some ⟨b, 0, none⟩) k c) k xs h := by
  refine ⟨?_, .inr ⟨b, c, cs.toArray, rfl, hb, hkc, (by unfold maxLen; omega), by simpa using hl, by simpa using hx⟩⟩
  rw [← hx, List.length_take, hl]
  exact Nat.min_eq_left (Nat.mul_le_mul_right _ hkc)

theorem n_append (i : Nat) {t e : TypeId} {zv : Value} {sz by_ k m : Nat} {u : Value} {xs news : List Value} (H : Sep z Γ w) (hi : Γ[i]? = some (grow e sz v k xs)) (ho : o.op = .call { callee := .builtin .append, args := #[x, y], argTypes := #[t, t] })
    (ht : P.underlying t = some (.slice e)) (hE : Elt P e zv sz by_) (hx : ev L x = some v) (hy : ev L y = some u) (hsrc : Rd sz u m news w) (h1 : ∀ c ∈ news, c.oneCell' = true) (hby : (k + m) * by_ ≤ 140737488355328) :
    GoesL P n ds L o w (fun v' w' => Sep z (Γ.set i (grow e sz v' (k + m) (xs ++ news))) w') := fun a hF => by
  obtain ⟨own, hown⟩ := H.own
  have hg := hown i _ hi
  have hsub : subH ((hp w).part own i) (hp w) := fun q o' e => (part_some e).2
  have hO := hg.own hsub
  obtain ⟨v', w', hr, hO', hx', hb'⟩ := g_append (B := 0) ho ht hE hx hy hO hsrc h1 (Nat.zero_le _) hby a hF
  refine ⟨v', w', hr, hx'.os.trans H.os, hx'.tape.trans H.tape, hx'.output.trans H.output, fun q => if q < w.heap.size then own q else i, fun j B hj => ?_⟩
  have hvb : ∀ q, v.ownBlock = some q → own q = i := fun q hq => by
    rcases hg.2 with ⟨rfl, _⟩ | ⟨b, cap, cur, rfl, hgb, _⟩
    · simp [Value.ownBlock] at hq
    · simp [Value.ownBlock] at hq; subst hq; exact (part_some hgb).1
  rw [List.getElem?_set] at hj
  split at hj
  · rename_i e; subst e
    split at hj
    · cases hj
      refine ⟨hO'.1, ?_⟩
      rcases hO'.2 with q | ⟨g, cap, cur, hv', _, hgw, r⟩
      · exact .inl q
      · refine .inr ⟨g, cap, cur, hv', ?_, r⟩
        unfold Hp.part hp
        have hgi : (if g < w.heap.size then own g else i) = i := by
          split
          · rename_i hlt
            rcases hb' with q | q
            · exact hvb g (by rw [← q, hv']; rfl)
            · rw [hv'] at q; simp [Value.ownBlock] at q; omega
          · rfl
        rw [if_pos hgi]; exact hgw
    · cases hj
  · rename_i hne
    have := hown j B hj
    have e : (hp w').part (fun q => if q < w.heap.size then own q else i) j = (hp w).part own j := by
      funext q
      unfold Hp.part hp
      dsimp only
      by_cases hq : q < w.heap.size
      · simp only [hq, if_true]
        by_cases hqj : own q = j
        · simp only [hqj, if_true]
          exact hx'.block q hq (fun hvq => hne ((hvb q hvq).symm.trans hqj))
        · simp [hqj]
      · have : w.heap[q]? = none := Array.getElem?_eq_none (by omega)
        simp [hq, this, hne]
    rwa [e]
/-- a slice literal -/
theorem n_buildSlice (H : Sep z Γ w) {t e : TypeId} {zv : Value} {len sz by_ : Nat} {parts : List (Nat × Operand)} {vs : List (Nat × Value)} {out : List Value} (ho : o.op = .buildSlice t len parts.toArray) (ht : P.underlying t = some (.slice e)) (hE : Elt P e zv sz by_)
    (hv : (evs L (parts.map (·.2))).map (List.zip (parts.map (·.1))) = some vs) (hsm : len * sz ≤ 16777216) (hl : 0 < len) (hf : Instr.fill (fun i => some (i * sz, sz)) ((Array.range (len * sz)).map (zv.cells[· % zv.cells.size]!)) vs = some out.toArray) :
    GoesL P n ds L o w (fun v w' => ∃ b, v = .slice (some ⟨b, 0, none⟩) len len ∧ Sep z (blk b out e :: Γ) w') := fun a hF => by
  obtain ⟨v, w', hr, b, rfl, hs, _, hB, hx⟩ := g_buildSlice (w := w) ho ht hE hv hsm hl hf a hF
  exact ⟨_, w', hr, b, rfl, H.new hx (by omega) hB⟩
/-- an empty slice literal: of nought elements -/
theorem n_buildSlice0 (H : Sep z Γ w) {t e : TypeId} {zv : Value} {sz by_ : Nat} (ho : o.op = .buildSlice t 0 #[]) (ht : P.underlying t = some (.slice e)) (hE : Elt P e zv sz by_) :
    GoesL P n ds L o w (fun v w' => ∃ b, v = .slice (some ⟨b, 0, none⟩) 0 0 ∧ Sep z (blk b [] e :: Γ) w') := fun a hF => by
  obtain ⟨i, hi, hz, hs, hb, hzs, hsz, hb0⟩ := hE
  refine ⟨_, _, ?_, w.heap.size, rfl, H.new (ext_push w (.cells #[] e)) (Nat.le_refl _) (by show (w.heap.push _)[w.heap.size]? = _; simp)⟩
  simp only [execOp, ho, List.map_toArray]
  have hso : ∀ w, (sizeOf e).run P w = .ok sz w := fun w => by simp [sizeOf, typeInfo, hi, hs, go_sem]
  simp [Instr.buildSlice, run_underlying ht, hso, newRow, newObj, go_sem, Sem.run, Instr.fill]
end
end Go.Proofs.YtanejicgmgpjcaaGreatDoor
