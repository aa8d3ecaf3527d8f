/-
  Shifts, bits, arrays of bytes against one another. Over any program. No condition.
-/
import Derived.Test.YtanejicgmgpjcaaGreatDoorCoreV
import Derived.ArgAppend
namespace Go.Proofs.YtanejicgmgpjcaaGreatDoor
open Go.RowKit

section
variable {P : Program} {C : World → Prop} {o : Oper} {a : Act} {w z : World} {Γ : List Asn} {n : Nat} {ds : List Deferred} {L : List (Nat × Value)} {v : Value} {x y : Operand} {xt yt : TypeId}
theorem d_shrI {p : Int} {k : IntKind} {q : Int} {m : Nat} (ho : o.op = .binOp .shr xt x y yt) (hx : ev L x = some (.int .i64 p)) (hy : ev L y = some (.int k q)) (hq : q = m) (hm : m < 64) : DoesL P C n ds L o (.int .i64 (p / 2 ^ m)) := fun a hF w _ => by
  subst hq
  simp only [execOp, ho, hF.ev hx, hF.ev hy]
  have hj : ¬ ((m : Int) < 0) := by omega
  have hj2 : min m 64 = m := by omega
  simp [go_sem, Op.shift, IntKind.bits, hj, hj2]
theorem d_shlI {p : Int} {k : IntKind} {q : Int} {m : Nat} (ho : o.op = .binOp .shl xt x y yt) (hx : ev L x = some (.int .i64 p)) (hy : ev L y = some (.int k q)) (hq : q = m) (hm : m < 64) : DoesL P C n ds L o (.int .i64 (IntKind.i64.wrap (p * 2 ^ m))) := fun a hF w _ => by
  subst hq
  simp only [execOp, ho, hF.ev hx, hF.ev hy]
  have hj : ¬ ((m : Int) < 0) := by omega
  have hj2 : min m 64 = m := by omega
  simp [go_sem, Op.shift, IntKind.bits, hj, hj2]
theorem d_addW {p q : Int} (ho : o.op = .binOp .add xt x y yt) (hx : ev L x = some (.int .i64 p)) (hy : ev L y = some (.int .i64 q)) : DoesL P C n ds L o (.int .i64 (IntKind.i64.wrap (p + q))) := d_add (P := P) (C := C) (n := n) (ds := ds) (L := L) ho hx hy
theorem or_add {p : Int} {q : Nat} (hp : p % 256 = 0) (hq : q < 256) : ((BitVec.ofInt 64 p ||| BitVec.ofInt 64 (q : Int)).toNat : Int) % 18446744073709551616 = (p + q) % 18446744073709551616 := by
  have e1 : (BitVec.ofInt 64 p).toNat = (p % 18446744073709551616).toNat := by simp [BitVec.toNat_ofInt]
  have e2 : (BitVec.ofInt 64 (q : Int)).toNat = q := by simp [BitVec.toNat_ofInt]; omega
  have h3 : ∃ r, (p % 18446744073709551616).toNat = r <<< 8 := ⟨(p % 18446744073709551616).toNat / 256, by rw [Nat.shiftLeft_eq]; omega⟩
  obtain ⟨r, hr⟩ := h3
  rw [BitVec.toNat_or, e1, e2, hr, ← Nat.shiftLeft_add_eq_or_of_lt (by omega : q < 2 ^ 8), ← hr]
  omega
theorem d_orI {p q : Int} (ho : o.op = .binOp .or xt x y yt) (hx : ev L x = some (.int .i64 p)) (hy : ev L y = some (.int .i64 q)) (hp : p % 256 = 0) (hq : 0 ≤ q ∧ q < 256) : DoesL P C n ds L o (.int .i64 (IntKind.i64.wrap (p + q))) := fun a hF w _ => by
  obtain ⟨q, rfl⟩ := Int.eq_ofNat_of_zero_le hq.1
  have h := or_add (p := p) (q := q) hp (by omega)
  have key : IntKind.i64.wrap ((BitVec.ofInt IntKind.i64.bits p ||| BitVec.ofInt IntKind.i64.bits (q : Int)).toNat : Int) = IntKind.i64.wrap (p + q) := by
    show (if (true && decide (((BitVec.ofInt 64 p ||| BitVec.ofInt 64 (q : Int)).toNat : Int) % (2 ^ 64 : Int) ≥ (2 ^ (64 - 1) : Int))) = true then ((BitVec.ofInt 64 p ||| BitVec.ofInt 64 (q : Int)).toNat : Int) % (2 ^ 64 : Int) - (2 ^ 64 : Int) else ((BitVec.ofInt 64 p ||| BitVec.ofInt 64 (q : Int)).toNat : Int) % (2 ^ 64 : Int)) = (if (true && decide ((p + q) % (2 ^ 64 : Int) ≥ (2 ^ (64 - 1) : Int))) = true then (p + q) % (2 ^ 64 : Int) - (2 ^ 64 : Int) else (p + q) % (2 ^ 64 : Int))
    simp only [show (2 : Int) ^ 64 = 18446744073709551616 from rfl, h]
  have key' : IntKind.i64.wrap ((BitVec.ofInt 64 p ||| BitVec.ofInt 64 (q : Int)).toNat : Int) = IntKind.i64.wrap (p + q) := key
  rw [BitVec.ofInt_natCast] at key'
  simp only [execOp, ho, hF.ev hx, hF.ev hy]
  simp only [binOp, Op.intBits, go_sem, key]
  first | (simp [go_sem, key']; done) | (simp only [go_sem]; exact congrArg (fun v => Result.ok (Value.int .i64 v) _) key') | (simp [go_sem]; exact key')
/-- a byte of a string -/
theorem d_indexS {t : TypeId} {l : List UInt8} {i : Int} {k : IntKind} {j : Nat} {b : UInt8} (ho : o.op = .index t x y) (ht : isStr P t = true) (hx : ev L x = some (str l)) (hy : ev L y = some (.int k i)) (hij : i = j) (hb : l[j]? = some b) : DoesL P C n ds L o (u8 b) := fun a hF w _ => by
  have ht := isStr_ok ht
  subst hij
  have hj : j < l.length := (List.getElem?_eq_some_iff.1 hb).1
  have hg : (⟨l.toArray⟩ : ByteArray)[j]? = some b := by
    have hs : (⟨l.toArray⟩ : ByteArray).size = l.length := by show l.toArray.size = _; simp
    rw [getElem?_pos (⟨l.toArray⟩ : ByteArray) j (by rw [hs]; exact hj)]
    show some (l.toArray[j]'_) = _
    simp [(List.getElem?_eq_some_iff.1 hb).2]
  simp only [execOp, ho, hF.ev hx, hF.ev hy, str, Instr.index, asIntOf, Sem.run_bind, Sem.run_pure, Result.andThen_ok, run_underlying ht, if_pos (Int.natCast_nonneg j), Int.toNat_natCast, hg]
  rfl
/-- append onto a slice that has no room: others' memory is only read -/
theorem n_appendF {t e : TypeId} {zv : Value} {sz by_ k cap m b off : Nat} {u : Value} {xs news : List Value} (H : Sep z Γ w) (ho : o.op = .call { callee := .builtin .append, args := #[x, y], argTypes := #[t, t] })
    (ht : P.underlying t = some (.slice e)) (hE : Elt P e zv sz by_) (hx : ev L x = some (.slice (some ⟨b, off, none⟩) k cap)) (hy : ev L y = some u) (hold : Rd sz (.slice (some ⟨b, off, none⟩) k cap) k xs w) (hsrc : Rd sz u m news w) (hg : cap < k + m) (h1 : ∀ c ∈ news, c.oneCell' = true) (hby : (k + m) * by_ ≤ 140737488355328) :
    GoesL P n ds L o w (fun v' w' => Sep z (grow e sz v' (k + m) (xs ++ news) :: Γ) w') := fun a hF => by
  obtain ⟨i, hi, hz, hs, hb, hzs, hsz, hb0⟩ := hE
  obtain ⟨ao1, c1, e1, hkc, _, hl1, hrd1⟩ := hold
  cases e1
  obtain ⟨ao, c, rfl, hmc, _, hl, hrd⟩ := hsrc
  have h63 : k + m ≤ maxLen := by
    have : (k + m) * 1 ≤ (k + m) * by_ := Nat.mul_le_mul_left _ hb0
    unfold maxLen; omega
  have hne : 0 < news.length := by
    have : 1 * 1 ≤ m * sz := Nat.mul_le_mul (by omega) (by omega)
    omega
  obtain ⟨b', p', e2, _⟩ := hrd 0 news[0] (List.getElem?_eq_getElem hne)
  subst e2
  have hadd : ∀ (b p j : Nat), (Addr.add ⟨b, p, none⟩ j) = ⟨b, p + j, none⟩ := fun b p j => by
    unfold Addr.add; split
    · rename_i h0; simp [h0]
    · rfl
  obtain ⟨v', w', hr, h2, h3⟩ := run_append_arg_grows (P := P) w t o.type e i zv sz by_ ht hi hz hs hb hzs hsz ⟨b, off, none⟩ k cap xs hl1 (fun j q hj => by
    obtain ⟨b2, p2, e3, hc⟩ := hrd1 j q hj
    cases e3; rw [hadd]; exact hc) ⟨b', p', none⟩ m c news hl (fun j q hj => by
    obtain ⟨b2, p2, e3, hc⟩ := hrd j q hj
    cases e3; rw [hadd]; exact hc) hg h63 hby
  have hx' : Ext No w w' := (Ext.of_grown h3).mono (fun _ _ q => by cases q)
  refine ⟨v', w', ?_, H.grow hx' ?_⟩
  · simp only [execOp, ho, resolve, invoke, builtin, Sem.run_bind, Sem.run_pure, Result.andThen_ok, List.map_toArray, List.map_cons, List.map_nil, hF.ev hx, hF.ev hy, hr]
  · refine ⟨h2.1, ?_⟩
    rcases h2.2 with q | ⟨g, cap, cur, hv, hge, hgw, r⟩
    · exact .inl q
    · refine .inr ⟨g, cap, cur, hv, ?_, r⟩
      show (if g < w.heap.size then none else w'.heap[g]?) = _
      rw [if_neg (by omega)]; exact hgw
/-- a slice as an array -/
theorem d_arrayAt {t : TypeId} {b off l c m : Nat} (ho : o.op = .sliceToArrayPointer t x) (ht : (match P.underlying t with | some (.array k _) => Nat.beq k m | _ => false) = true) (hx : ev L x = some (.slice (some ⟨b, off, none⟩) l c)) (hl : m ≤ l) : DoesL P C n ds L o (.pointer (some ⟨b, off, none⟩)) := fun a hF w _ => by
  split at ht
  · rename_i k e h
    have hk : k = m := by simpa using ht
    subst hk
    simp only [execOp, ho, hF.ev hx]
    simp [Instr.arrayAt, run_underlying h, go_sem, hl]
  · cases ht
/-- four bytes against four bytes -/
theorem d_neqA4 {b0 b1 b2 b3 c0 c1 c2 c3 : UInt8} (ho : o.op = .binOp .neq xt x y yt) (ht : (match P.underlying xt with | some (.array 4 e) => (match P.underlying e, P.info? e with | some (.int .u8), some i => Nat.beq i.size 1 | _, _ => false) | _ => false) = true) (hg : P.eqGuardType P.depth xt = false) (hx : ev L x = some (.agg #[u8 b0, u8 b1, u8 b2, u8 b3])) (hy : ev L y = some (.agg #[u8 c0, u8 c1, u8 c2, u8 c3])) : DoesL P C n ds L o (.bool (decide ([b0, b1, b2, b3] ≠ [c0, c1, c2, c3]))) := fun a hF w _ => by
  split at ht
  · rename_i e h
    split at ht
    · rename_i i h1 h2
      have hz : i.size = 1 := by simpa using ht
      have hso : ∀ w, (sizeOf e).run P w = .ok 1 w := fun w => by simp [sizeOf, typeInfo, h2, hz, go_sem]
      have hfl : ∀ w, (isAgg e).run P w = .ok false w := run_flat (by simp [flat, h1])
      have hp : ∀ (cs : Array Value) (j : Nat) (u : Value) w, cs[j]? = some u → (part e cs j).run P w = .ok u w := fun cs j u w hc => by
        simp only [part, Sem.run_bind, hfl, Result.andThen_ok, if_false, Bool.false_eq_true, hc, Sem.run_pure]
      have heq : ∀ (d : Nat) (p q : UInt8) w, (Op.equalIn (d + 1) e (u8 p) (u8 q)).run P w = .ok (decide (p = q)) w := fun d p q w => by
        simp only [Op.equalIn, Sem.run_bind, run_underlying h1, Result.andThen_ok, u8]
        simp [go_sem]
        rw [Bool.eq_iff_iff]; simp
        exact ⟨fun h => UInt8.toNat_inj.1 (by omega), fun h => by rw [h]⟩
      have hgen : ∀ d, (Op.equalIn (d + 1 + 1) xt (.agg #[u8 b0, u8 b1, u8 b2, u8 b3]) (.agg #[u8 c0, u8 c1, u8 c2, u8 c3])).run P w = .ok (decide ([b0, b1, b2, b3] = [c0, c1, c2, c3])) w := fun d => by
        have q0 := hp #[u8 b0, u8 b1, u8 b2, u8 b3] 0 (u8 b0) w rfl
        have q1 := hp #[u8 b0, u8 b1, u8 b2, u8 b3] 1 (u8 b1) w rfl
        have q2 := hp #[u8 b0, u8 b1, u8 b2, u8 b3] 2 (u8 b2) w rfl
        have q3 := hp #[u8 b0, u8 b1, u8 b2, u8 b3] 3 (u8 b3) w rfl
        have r0 := hp #[u8 c0, u8 c1, u8 c2, u8 c3] 0 (u8 c0) w rfl
        have r1 := hp #[u8 c0, u8 c1, u8 c2, u8 c3] 1 (u8 c1) w rfl
        have r2 := hp #[u8 c0, u8 c1, u8 c2, u8 c3] 2 (u8 c2) w rfl
        have r3 := hp #[u8 c0, u8 c1, u8 c2, u8 c3] 3 (u8 c3) w rfl
        rw [Op.equalIn]
        simp only [Sem.run_bind, run_underlying h, Result.andThen_ok, hso, Std.Legacy.Range.forIn_eq_forIn_range', Std.Legacy.Range.size]
        simp [List.range', Sem.run_bind, q0, q1, q2, q3, r0, r1, r2, r3, heq]
        by_cases g0 : b0 = c0 <;> by_cases g1 : b1 = c1 <;> by_cases g2 : b2 = c2 <;> by_cases g3 : b3 = c3 <;> simp [g0, g1, g2, g3, q0, q1, q2, q3, r0, r1, r2, r3, heq, Sem.run_bind]
      have main : (Op.equal xt (.agg #[u8 b0, u8 b1, u8 b2, u8 b3]) (.agg #[u8 c0, u8 c1, u8 c2, u8 c3])).run P w = .ok (decide ([b0, b1, b2, b3] = [c0, c1, c2, c3])) w := hgen 9998
      have hguard : (eqGuard .neq xt x y (.agg #[u8 b0, u8 b1, u8 b2, u8 b3]) (.agg #[u8 c0, u8 c1, u8 c2, u8 c3])).run P w = .ok () w := by
        simp [eqGuard, Sem.run_bind, program, Sem.run, hg]
      simp only [execOp, ho, hF.ev hx, hF.ev hy]
      simp only [binOp, Sem.run_bind, hguard, main, Result.andThen_ok, Sem.run_pure]
      simp
    · cases ht
  · cases ht
end
theorem Slc.cells {v : Value} {n : Nat} (h : Slc v n) : v.cells = #[v] := by obtain ⟨_, _, rfl⟩ := h; rfl
theorem Slc.one {v : Value} {n : Nat} (h : Slc v n) : v.oneCell' = true := by obtain ⟨_, _, rfl⟩ := h; rfl
theorem one_nil : ∀ u ∈ ([] : List Value), u.oneCell' = true := fun _ h => by cases h
theorem one_cons {u : Value} {us : List Value} (h : u.oneCell' = true) (hs : ∀ u ∈ us, u.oneCell' = true) : ∀ x ∈ u :: us, x.oneCell' = true := fun x hx => by
  rcases List.mem_cons.1 hx with rfl | q
  · exact h
  · exact hs x q
/-- a slice of what a slice reads -/
theorem rdH.cut {b off n c lo m c' : Nat} {xs : List UInt8} {h : Hp} (r : rdH 1 (.slice (some ⟨b, off, none⟩) n c) n (xs.map u8) h) (h1 : lo + m ≤ n) (h2 : m ≤ c') (h3 : c' ≤ c) : rdH 1 (.slice (some ⟨b, off + lo, none⟩) m c') m (((xs.drop lo).take m).map u8) h := by
  obtain ⟨ao, c0, e, q1, q2, q3, q4⟩ := r
  cases e
  refine ⟨_, _, rfl, h2, by omega, by simp at q3 ⊢; omega, fun j u hj => ?_⟩
  have hj' : (xs.map u8)[lo + j]? = some u := by
    rw [List.getElem?_map, List.getElem?_take] at hj
    split at hj
    · rw [List.getElem?_drop] at hj; rw [List.getElem?_map]; exact hj
    · cases hj
  obtain ⟨b', p', e, hc⟩ := q4 _ _ hj'
  cases e
  exact ⟨_, _, rfl, by rw [Nat.add_assoc]; exact hc⟩
theorem rdH.pre {b off n c m c' : Nat} {xs : List UInt8} {h : Hp} (r : rdH 1 (.slice (some ⟨b, off, none⟩) n c) n (xs.map u8) h) (h1 : m ≤ n) (h2 : m ≤ c' ∧ c' ≤ c) : rdH 1 (.slice (some ⟨b, off, none⟩) m c') m ((xs.take m).map u8) h := by
  have := r.cut (lo := 0) (m := m) (c' := c') (by omega) h2.1 h2.2
  simpa using this
theorem rdH.at {b off n c j : Nat} {xs : List UInt8} {x : UInt8} {h : Hp} (r : rdH 1 (.slice (some ⟨b, off, none⟩) n c) n (xs.map u8) h) (hx : xs[j]? = some x) : celH h b (off + j) (u8 x) := by
  obtain ⟨ao, c0, e, q1, q2, q3, q4⟩ := r
  obtain ⟨b', p', e', hc⟩ := q4 j (u8 x) (by rw [List.getElem?_map, hx]; rfl)
  cases e; cases e'; exact hc
theorem Sep.cell4 {z w : World} {Γ : List Asn} (i : Nat) {A : Asn} (H : Sep z Γ w) (hi : Γ[i]? = some A) {b off c : Nat} {xs : List UInt8} (hA : ∀ h, A h → rdH 1 (.slice (some ⟨b, off, none⟩) 256 c) 256 (xs.map u8) h) {ys : List UInt8} (hd : xs.drop 252 = ys) : ∀ j u, (ys.map u8)[j]? = some u → Cel b (off + 252 + j) u w := fun j u hj => by
  rw [List.getElem?_map, Option.map_eq_some_iff] at hj
  obtain ⟨y, hy, rfl⟩ := hj
  have hx : xs[252 + j]? = some y := by rw [← List.getElem?_drop, hd]; exact hy
  have := H.cell i hi (fun h q => (hA h q).at hx)
  rwa [← Nat.add_assoc] at this
theorem rdH.cap {b off n c : Nat} {xs : List UInt8} {h : Hp} (r : rdH 1 (.slice (some ⟨b, off, none⟩) n c) n (xs.map u8) h) : n ≤ c ∧ c ≤ 9223372036854775807 := by
  obtain ⟨_, _, e, q1, q2, _⟩ := r; cases e; exact ⟨q1, q2⟩
theorem rdH.len {v : Value} {n : Nat} {xs : List UInt8} {h : Hp} (r : rdH 1 v n (xs.map u8) h) : xs.length = n := by
  obtain ⟨_, _, _, _, _, q, _⟩ := r; simpa using q
end Go.Proofs.YtanejicgmgpjcaaGreatDoor
