/-
  Copies, strings, maps with keys that are ints, over memory in parts. Over any program. No condition.
-/
import Derived.Test.YtanejicgmgpjcaaGreatDoorCoreU
import Derived.Lib.Strings
namespace Go.Proofs.YtanejicgmgpjcaaGreatDoor
open Go.RowKit

def str (l : List UInt8) : Value := .string ⟨l.toArray⟩
def isU8 (P : Program) (t : TypeId) : Bool := match P.underlying t with
  | some (.slice e) => (match P.underlying e with | some (.int .u8) => (match P.info? e with | some i => Nat.beq i.size 1 | none => false) | _ => false)
  | _ => false
theorem isU8_ok {P : Program} {t : TypeId} (h : isU8 P t = true) : ∃ e i, P.underlying t = some (.slice e) ∧ P.underlying e = some (.int .u8) ∧ P.info? e = some i ∧ i.size = 1 := by
  unfold isU8 at h
  split at h
  · rename_i e h1
    split at h
    · rename_i h2
      split at h
      · rename_i i h3; exact ⟨e, i, h1, h2, h3, by simpa using h⟩
      · cases h
    · cases h
  · cases h

section
variable {P : Program} {C : World → Prop} {o : Oper} {a : Act} {w z : World} {Γ : List Asn} {n : Nat} {ds : List Deferred} {L : List (Nat × Value)} {v : Value} {x y : Operand} {xt yt : TypeId} {A : Asn}

/-! ### bytes as a string -/
theorem d_bytesStr {dt : TypeId} {l : List UInt8} {u : Value} (ho : o.op = .convert xt dt x) (h1 : isU8 P xt = true) (h2 : isStr P dt = true) (hx : ev L x = some u) (hr : ∀ w, C w → Rd 1 u l.length (l.map u8) w) : DoesL P C n ds L o (str l) := fun a hF w hw => by
  obtain ⟨e, i, ht, he, _, _⟩ := isU8_ok h1
  have hd := isStr_ok h2
  obtain ⟨ao, c, rfl, hlc, _, _, hc⟩ := hr w hw
  have key : (convert xt dt (.slice ao l.length c)).run P w = .ok (str l) w := by
    cases ao with
    | none =>
      have : l = [] := by
        cases l with
        | nil => rfl
        | cons p q => obtain ⟨b, p', e, _⟩ := hc 0 (u8 p) (by simp); cases e
      subst this
      exact run_convert_bytes_nil _ xt e ht he _ _ dt hd
    | some ad =>
      refine run_convert_bytes_back w xt dt e ad c l ht he hd fun j hj => ?_
      obtain ⟨b, p, e2, hcel⟩ := hc j (u8 l[j]) (by simp [hj])
      simp only [Option.some.injEq] at e2; subst e2
      have e3 : (Addr.add ⟨b, p, none⟩ j) = ⟨b, p + j, none⟩ := by
        unfold Addr.add; split
        · rename_i h0; simp [h0]
        · rfl
      rw [e3]; exact hcel
  simp only [execOp, ho, hF.ev hx, Sem.run_bind, key, Result.andThen_ok, Sem.run_pure]
theorem d_eqlS {l m : List UInt8} (ho : o.op = .binOp .eql xt x y yt) (ht : isStr P xt = true) (hx : ev L x = some (str l)) (hy : ev L y = some (str m)) : DoesL P C n ds L o (.bool (decide (l = m))) := fun a hF w _ => by
  have ht := isStr_ok ht
  simp only [execOp, ho, hF.ev hx, hF.ev hy, str]; simp [ht, go_sem]
  first | (rw [Bool.eq_iff_iff]; simp; done) | skip
theorem d_neqS {l m : List UInt8} (ho : o.op = .binOp .neq xt x y yt) (ht : isStr P xt = true) (hx : ev L x = some (str l)) (hy : ev L y = some (str m)) : DoesL P C n ds L o (.bool (decide (l ≠ m))) := fun a hF w _ => by
  have ht := isStr_ok ht
  simp only [execOp, ho, hF.ev hx, hF.ev hy, str]; simp [ht, go_sem]
  first | (rw [Bool.eq_iff_iff]; simp; done) | skip
theorem d_lenStr {t : TypeId} {l : List UInt8} (ho : o.op = .call { callee := .builtin .len, args := #[x], argTypes := #[t] }) (ht : isStr P t = true) (hx : ev L x = some (str l)) : DoesL P C n ds L o (.int .i64 l.length) := d_lenS ho ht hx

/-! ### copy -/
theorem run_copy_at {dT sT ty : TypeId} {b off dl dc m : Nat} {ct : TypeId} {cs news : List Value} {u : Value} (hd : isU8 P dT = true) (hsrc : (Rd 1 u m news w) ∨ (∃ l, u = str l ∧ news = l.map u8 ∧ m = l.length)) (h1 : ∀ c ∈ news, c.oneCell' = true) (hb : Blk b cs ct w) (hl : off + min m dl ≤ cs.length) :
    ∃ w', (Builtin.copy_ #[dT, sT] ty #[.slice (some ⟨b, off, none⟩) dl dc, u]).run P w = .ok (.int .i64 (min m dl : Nat)) w' ∧ Blk b (cs.take off ++ news.take (min m dl) ++ cs.drop (off + min m dl)) ct w' ∧ Ext (· = b) w w' ∧ w'.heap.size = w.heap.size := by
  obtain ⟨e, i, ht, _, hi, hs⟩ := isU8_ok hd
  have hso : ∀ w, (sizeOf e).run P w = .ok 1 w := fun w => by simp [sizeOf, typeInfo, hi, hs, go_sem]
  have hnl : (news.take (min m dl)).length = min m dl := by
    have : news.length = m := by
      rcases hsrc with ⟨_, _, _, _, _, hl, _⟩ | ⟨l, _, rfl, rfl⟩
      · simpa using hl
      · simp
    rw [List.length_take, this]; omega
  have hst := run_storeCells_at P b off ct (news.take (min m dl)) 0 cs.toArray w hb (by rw [hnl]; simpa using hl) (fun c hc => h1 c (List.mem_of_mem_take hc))
  rw [hnl] at hst
  simp only [Nat.add_zero, List.toList_toArray] at hst
  refine ⟨_, ?_, setRow_heap w b _ _ ct (0, 0) hb, ⟨rfl, rfl, rfl, by simp, fun k _ hk => setRow_other w b k _ hk⟩, by simp⟩
  have hlen : (Builtin.lenOf u).run P w = .ok m w := by
    rcases hsrc with ⟨ao, c, rfl, _⟩ | ⟨l, rfl, rfl, rfl⟩
    · rfl
    · rfl
  have hmin : m.min dl = min m dl := rfl
  have hfc : (Builtin.firstCells 1 (min m dl) u).run P w = .ok (news.take (min m dl)).toArray w := by
    rcases hsrc with ⟨ao, c, rfl, hmc, _, hl', hrd⟩ | ⟨l, rfl, rfl, rfl⟩
    · cases ao with
      | none =>
        have hn : news = [] := by
          cases news with
          | nil => rfl
          | cons q qs => obtain ⟨b', p', e', _⟩ := hrd 0 q rfl; cases e'
        subst hn
        simp [Builtin.firstCells, Sem.run_pure]
      | some ad =>
        have := run_loadCells_list (P := P) w ad (news.take (min m dl)) (fun j q hj => by
          have hj' : news[j]? = some q := by
            rw [List.getElem?_take] at hj; split at hj
            · exact hj
            · cases hj
          obtain ⟨b', p, e', hcel⟩ := hrd j q hj'
          simp only [Option.some.injEq] at e'; subst e'
          have e3 : (Addr.add ⟨b', p, none⟩ j) = ⟨b', p + j, none⟩ := by
            unfold Addr.add; split
            · rename_i h0; simp [h0]
            · rfl
          rw [e3]; exact hcel)
        rw [hnl] at this
        simp only [Builtin.firstCells, Nat.mul_one]
        exact this
    · have e : ((({ data := l.toArray } : ByteArray).extract 0 (min l.length dl)).data.map fun b => Value.int .u8 b.toNat) = ((l.map u8).take (min l.length dl)).toArray := by
        apply Array.ext'
        rw [Array.toList_map, Lib.extract_data]
        simp [u8, List.map_take]; rfl
      simp only [str, Builtin.firstCells, Sem.run_pure, e]
  simp only [Builtin.copy_, List.getElem?_toArray, List.getElem?_cons_zero, List.getElem?_cons_succ, Sem.run_bind, run_underlying ht, Result.andThen_ok, hlen, hso, hmin, hfc, hst, Sem.run_pure, goInt]
/-- a copy onto bytes of a block that is known -/
theorem n_copy (i : Nat) {t st : TypeId} {b off dl dc m : Nat} {ct : TypeId} {cs news : List Value} {u : Value} (H : Sep z Γ w) (hi : Γ[i]? = some (blk b cs ct)) (ho : o.op = .call { callee := .builtin .copy, args := #[x, y], argTypes := #[t, st] }) (hd : isU8 P t = true) (hx : ev L x = some (.slice (some ⟨b, off, none⟩) dl dc)) (hy : ev L y = some u)
    (hsrc : (Rd 1 u m news w) ∨ (∃ l, u = str l ∧ news = l.map u8 ∧ m = l.length)) (h1 : ∀ c ∈ news, c.oneCell' = true) (hl : off + min m dl ≤ cs.length) {k : Nat} (hk : min m dl = k) {out : List Value} (hout : cs.take off ++ news.take k ++ cs.drop (off + k) = out) :
    GoesL P n ds L o w (fun v w' => v = .int .i64 k ∧ Sep z (Γ.set i (blk b out ct)) w') := fun a hF => by
  obtain ⟨w', hr, hB, hx', _⟩ := run_copy_at (P := P) (sT := st) (ty := o.type) (dc := dc) hd hsrc h1 (H.blk i hi) hl
  rw [hk, hout] at hB
  rw [hk] at hr
  refine ⟨_, w', ?_, rfl, H.write i hi hx'.os hx'.tape hx'.output hB (fun q hq => ?_)⟩
  · simp only [execOp, ho, resolve, invoke, builtin, Sem.run_bind, Sem.run_pure, Result.andThen_ok, List.map_toArray, List.map_cons, List.map_nil, hF.ev hx, hF.ev hy, hr]
  · rcases Nat.lt_or_ge q w.heap.size with hq' | hq'
    · exact hx'.block q hq' hq
    · rw [Array.getElem?_eq_none hq', Array.getElem?_eq_none (by omega)]
/-- make([]byte, k) -/
theorem n_make {t e : TypeId} {k : Nat} (H : Sep z Γ w) (ho : o.op = .makeSlice t x y) (ht : P.underlying t = some (.slice e)) {zv : Value} {by_ : Nat} (hE : Elt P e zv 1 by_) (h0 : zv.cells = #[zv]) (hx : ev L x = some (.int .i64 k)) (hy : ev L y = some (.int .i64 k)) (hk : by_ * k ≤ 140737488355328) :
    GoesL P n ds L o w (fun v w' => ∃ b, v = .slice (some ⟨b, 0, none⟩) k k ∧ Sep z (blk b (List.replicate k zv) e :: Γ) w') := fun a hF => by
  obtain ⟨i, hi, hz, hs, hb, hzs, hsz, hb0⟩ := hE
  have hbk : (i.bytes : Int) * (k : Int) ≤ 281474976710656 := by
    rw [hb, ← Int.natCast_mul]; omega
  have hr := run_make (P := P) (w := w) t e i zv ht hi hz .i64 .i64 (k : Int) (k : Int) (by omega) (Int.le_refl _) hbk (by
    have : 1 * k ≤ by_ * k := Nat.mul_le_mul_right _ hb0
    omega)
  have e1 : madeCells zv.cells (((k : Int)).toNat * i.size) = (List.replicate k zv).toArray := by
    apply Array.ext'
    simp only [madeCells, hs, h0, Int.toNat_natCast, Nat.mul_one]
    rw [List.toList_toArray]
    apply List.ext_getElem
    · simp
    · intro j h1 h2; simp [Nat.mod_one]
  rw [e1] at hr
  refine ⟨_, _, ?_, w.heap.size, rfl, H.new (ext_push w (.cells (List.replicate k zv).toArray e)) (Nat.le_refl _) (by show (w.heap.push _)[w.heap.size]? = _; simp)⟩
  simp only [execOp, ho, hF.ev hx, hF.ev hy, Sem.run_bind, hr, Result.andThen_ok, Sem.run_pure, Int.toNat_natCast]
  rfl

/-! ### maps -/
abbrev IE := Int × Value × Nat
def toE (p : IE) : MapEntry := ⟨.int .i64 p.1, p.2.1, p.2.2⟩
def mapB (m : Nat) (l : List IE) (clk : Nat) : Asn := bk m (.map (l.map toE).toArray clk)
def fnd : List IE → Int → Nat → Option (Nat × Value)
  | [], _, _ => none
  | p :: l, k, i => if k = p.1 then some (i, p.2.1) else fnd l k (i + 1)
def getM : List IE → Int → Option Value
  | [], _ => none
  | p :: l, k => if k = p.1 then some p.2.1 else getM l k
def hasM (l : List IE) (k : Int) : Bool := (getM l k).isSome
def updM : List IE → Int → Value → List IE
  | [], _, _ => []
  | p :: l, k, v => if k = p.1 then (k, v, p.2.2) :: l else p :: updM l k v
def delM : List IE → Int → List IE
  | [], _ => []
  | p :: l, k => if k = p.1 then l else p :: delM l k
def putM (l : List IE) (k : Int) (v : Value) (clk : Nat) : List IE := if hasM l k then updM l k v else l ++ [(k, v, clk)]
def putC (l : List IE) (k : Int) (clk : Nat) : Nat := if hasM l k then clk else clk + 1
theorem fnd_get (l : List IE) (k : Int) : ∀ i, (fnd l k i).map (·.2) = getM l k := by
  induction l with
  | nil => intro i; rfl
  | cons p l ih => intro i; simp only [fnd, getM]; split <;> simp [ih]
theorem fnd_ge (l : List IE) (k : Int) : ∀ i j u, fnd l k i = some (j, u) → i ≤ j := by
  induction l with
  | nil => intro i j u h; simp [fnd] at h
  | cons p l ih =>
    intro i j u h
    simp only [fnd] at h
    split at h
    · simp at h; omega
    · have := ih _ _ _ h; omega
theorem fnd_upd (l : List IE) (k : Int) (v : Value) : ∀ i j u, fnd l k i = some (j, u) → (l.map toE).modify (j - i) (fun e => { e with key := .int .i64 k, val := v }) = (updM l k v).map toE ∧ ((l.map toE)[j - i]?).map (·.key) = some (.int .i64 k) := by
  induction l with
  | nil => intro i j u h; simp [fnd] at h
  | cons p l ih =>
    intro i j u h
    simp only [fnd] at h
    simp only [updM]
    split at h
    · rename_i e
      simp at h
      obtain ⟨rfl, _⟩ := h
      simp [e, toE]
    · rename_i e
      have h1 := fnd_ge _ _ _ _ _ h
      obtain ⟨h2, h3⟩ := ih _ _ _ h
      obtain ⟨q, rfl⟩ : ∃ q, j = i + 1 + q := ⟨j - (i + 1), by omega⟩
      rw [show i + 1 + q - (i + 1) = q from by omega] at h2 h3
      rw [show i + 1 + q - i = q + 1 from by omega]
      refine ⟨by simp [e, h2], ?_⟩
      rw [List.map_cons, List.getElem?_cons_succ]; exact h3
theorem fnd_del (l : List IE) (k : Int) : ∀ i j u, fnd l k i = some (j, u) → (l.map toE).eraseIdx (j - i) = (delM l k).map toE ∧ j - i < l.length := by
  induction l with
  | nil => intro i j u h; simp [fnd] at h
  | cons p l ih =>
    intro i j u h
    simp only [fnd] at h
    simp only [delM]
    split at h
    · rename_i e
      simp at h
      obtain ⟨rfl, _⟩ := h
      simp [e]
    · rename_i e
      have h1 := fnd_ge _ _ _ _ _ h
      obtain ⟨h2, h3⟩ := ih _ _ _ h
      obtain ⟨q, rfl⟩ : ∃ q, j = i + 1 + q := ⟨j - (i + 1), by omega⟩
      rw [show i + 1 + q - (i + 1) = q from by omega] at h2 h3
      rw [show i + 1 + q - i = q + 1 from by omega]
      simp [e, h2]; omega
theorem del_none (l : List IE) (k : Int) (h : getM l k = none) : delM l k = l := by
  induction l with
  | nil => rfl
  | cons p l ih =>
    simp only [getM] at h
    simp only [delM]
    split at h
    · cases h
    · rename_i e; rw [if_neg e, ih h]
def mapInt (P : Program) (t : TypeId) : Option TypeId := match P.underlying t with
  | some (.map k e) => (match P.underlying k with | some (.int _) => some e | _ => none)
  | _ => none
theorem mapInt_ok {t e : TypeId} (h : mapInt P t = some e) : ∃ k ik, P.underlying t = some (.map k e) ∧ P.underlying k = some (.int ik) := by
  unfold mapInt at h
  split at h
  · rename_i k e' h1
    split at h
    · rename_i ik h2; simp only [Option.some.injEq] at h; subst h; exact ⟨k, ik, h1, h2⟩
    · cases h
  · cases h
theorem run_findKey {kt : TypeId} {ik : IntKind} (hk : P.underlying kt = some (.int ik)) (l : List IE) (k : Int) (w : World) : (Instr.findKey kt (.int .i64 k) (l.map toE)).run P w = .ok (fnd l k 0) w := by
  have key : ∀ (l : List IE) (i : Nat), Instr.findNow (.int ik) (.int .i64 k) (l.map toE) i = some (fnd l k i) := by
    intro l
    induction l with
    | nil => intro i; rfl
    | cons p l ih =>
      intro i
      simp only [List.map_cons, Instr.findNow, toE, Instr.sameNow, if_true, fnd]
      by_cases e : k = p.1
      · simp [e]
      · have : (k == p.1) = false := by simpa using e
        rw [this, if_neg e]; exact ih _
  simp only [Instr.findKey, Sem.run_bind, run_underlying hk, Result.andThen_ok, key, Sem.run_pure]
theorem run_checkKey {kt : TypeId} {ik : IntKind} (hk : P.underlying kt = some (.int ik)) (b : Bool) (k : Int) (w : World) : (Instr.checkKey b 10000 kt (.int .i64 k)).run P w = .ok () w := by
  unfold Instr.checkKey
  simp only [Sem.run_bind, run_underlying hk, Result.andThen_ok, Sem.run_pure]
theorem d_lookup {t e : TypeId} {m clk : Nat} {l : List IE} {k : Int} {zv : Value} (ho : o.op = .lookup t x y false) (ht : mapInt P t = some e) (hz : (P.info? e).bind (·.zero) = some zv) (hx : ev L x = some (.map (some m))) (hy : ev L y = some (.int .i64 k))
    (hm : ∀ w, C w → w.heap[m]? = some (.map (l.map toE).toArray clk)) : DoesL P C n ds L o ((getM l k).getD zv) := fun a hF w hw => by
  obtain ⟨kt, ik, h1, h2⟩ := mapInt_ok ht
  have hz' : (zeroValue e).run P w = .ok zv w := by
    cases hi : P.info? e with
    | none => rw [hi] at hz; cases hz
    | some i => rw [hi] at hz; simp [zeroValue, typeInfo, hi, show i.zero = some zv from hz, go_sem]
  have hg : (getObj m).run P w = .ok (.map (l.map toE).toArray clk) w := by simp [getObj, Sem.run, hm w hw]
  have hfg := fnd_get l k 0
  simp only [execOp, ho, hF.ev hx, hF.ev hy, Instr.lookup, Sem.run_bind, run_underlying h1, Result.andThen_ok, hg, Sem.run_pure, run_checkKey h2, List.toList_toArray, run_findKey h2]
  cases hf : fnd l k 0 with
  | none => rw [hf] at hfg; rw [← hfg]; simp [hz', Sem.run_bind, Sem.run_pure]
  | some q => rw [hf] at hfg; rw [← hfg]; simp [Sem.run_pure]
theorem n_mapUpdate (i : Nat) {t e : TypeId} {m clk : Nat} {l : List IE} {k : Int} {xo ko vo : Operand} (H : Sep z Γ w) (hi : Γ[i]? = some (mapB m l clk)) (ho : o.op = .mapUpdate t xo ko vo) (ht : mapInt P t = some e) (hx : ev L xo = some (.map (some m))) (hk : ev L ko = some (.int .i64 k)) (hv : ev L vo = some v) :
    PutsL P n ds L o w (fun w' => Sep z (Γ.set i (mapB m (putM l k v clk) (putC l k clk))) w') := fun a hF => by
  obtain ⟨kt, ik, h1, h2⟩ := mapInt_ok ht
  have hmb : w.heap[m]? = some (.map (l.map toE).toArray clk) := H.bk i hi
  have hg : (getObj m).run P w = .ok (.map (l.map toE).toArray clk) w := by simp [getObj, Sem.run, hmb]
  have hset : ∀ ob, (setObj m ob).run P w = .ok () { w with heap := w.heap.setIfInBounds m ob } := fun ob => by simp [setObj, Sem.run, hmb]
  have hlt : m < w.heap.size := (Array.getElem?_eq_some_iff.1 hmb).1
  have fin : ∀ ob, Sep z (Γ.set i (bk m ob)) { w with heap := w.heap.setIfInBounds m ob } := fun ob =>
    H.write i hi rfl rfl rfl (by show (w.heap.setIfInBounds m ob)[m]? = _; simp [hlt]) (fun q hq => by show (w.heap.setIfInBounds m ob)[q]? = _; rw [Array.getElem?_setIfInBounds_ne (Ne.symm hq)])
  have hfg := fnd_get l k 0
  have main : (Instr.mapUpdate t (.map (some m)) (.int .i64 k) v).run P w = .ok () { w with heap := w.heap.setIfInBounds m (.map ((putM l k v clk).map toE).toArray (putC l k clk)) } := by
    simp only [Instr.mapUpdate, Sem.run_bind, run_underlying h1, Result.andThen_ok, hg, Sem.run_pure, run_checkKey h2, List.toList_toArray, run_findKey h2]
    cases hf : fnd l k 0 with
    | none =>
      rw [hf] at hfg
      have hh : hasM l k = false := by simp [hasM, ← hfg]
      simp only [putM, putC, hh, if_false, Bool.false_eq_true, hset]
      simp [toE]
    | some q =>
      obtain ⟨j, u⟩ := q
      rw [hf] at hfg
      have hh : hasM l k = true := by simp [hasM, ← hfg]
      obtain ⟨f1, f2⟩ := fnd_upd l k v 0 j u hf
      simp only [Nat.sub_zero] at f1 f2
      have hkey : ((((l.map toE).toArray)[j]?).map (·.key)).getD (.int .i64 k) = .int .i64 k := by
        rw [List.getElem?_toArray, f2]; rfl
      simp only [putM, putC, hh, if_true, hkey]
      have hks : (Instr.keyThatStays (.int .i64 k) (.int .i64 k)).run P w = .ok (.int .i64 k) w := by
        simp [Instr.keyThatStays, Instr.sameBits, Sem.run_pure]
      simp only [hks, Sem.run_bind, Result.andThen_ok]
      rw [← f1]
      have : ((l.map toE).toArray.modify j fun e => { e with key := Value.int .i64 k, val := v }) = ((l.map toE).modify j fun e => { e with key := Value.int .i64 k, val := v }).toArray := by simp
      rw [this]
      exact hset _
  refine ⟨_, ?_, fin _⟩
  simp only [execOp, ho, hF.ev hx, hF.ev hk, hF.ev hv, Sem.run_bind, main, Result.andThen_ok, Sem.run_pure]
theorem n_delete (i : Nat) {t e kt' : TypeId} {m clk : Nat} {l : List IE} {k : Int} (H : Sep z Γ w) (hi : Γ[i]? = some (mapB m l clk)) (ho : o.op = .call { callee := .builtin .delete, args := #[x, y], argTypes := #[t, kt'] }) (ht : mapInt P t = some e) (hx : ev L x = some (.map (some m))) (hk : ev L y = some (.int .i64 k)) :
    GoesL P n ds L o w (fun v w' => v = .tuple #[] ∧ Sep z (Γ.set i (mapB m (delM l k) clk)) w') := fun a hF => by
  obtain ⟨kt, ik, h1, h2⟩ := mapInt_ok ht
  have hmb : w.heap[m]? = some (.map (l.map toE).toArray clk) := H.bk i hi
  have hg : (getObj m).run P w = .ok (.map (l.map toE).toArray clk) w := by simp [getObj, Sem.run, hmb]
  have hset : ∀ ob, (setObj m ob).run P w = .ok () { w with heap := w.heap.setIfInBounds m ob } := fun ob => by simp [setObj, Sem.run, hmb]
  have hlt : m < w.heap.size := (Array.getElem?_eq_some_iff.1 hmb).1
  have fin : ∀ ob, Sep z (Γ.set i (bk m ob)) { w with heap := w.heap.setIfInBounds m ob } := fun ob =>
    H.write i hi rfl rfl rfl (by show (w.heap.setIfInBounds m ob)[m]? = _; simp [hlt]) (fun q hq => by show (w.heap.setIfInBounds m ob)[q]? = _; rw [Array.getElem?_setIfInBounds_ne (Ne.symm hq)])
  have hfg := fnd_get l k 0
  have main : (Builtin.delete_ #[t, kt'] o.type #[.map (some m), .int .i64 k]).run P w = .ok (.tuple #[]) { w with heap := w.heap.setIfInBounds m (.map ((delM l k).map toE).toArray clk) } := by
    simp only [Builtin.delete_, List.getElem?_toArray, List.getElem?_cons_zero, List.getElem?_cons_succ, Sem.run_bind, run_underlying h1, Result.andThen_ok, hg, Sem.run_pure, run_checkKey h2, run_findKey h2]
    cases hf : fnd l k 0 with
    | none =>
      rw [hf] at hfg
      simp only [Sem.run_bind, hset, Result.andThen_ok, del_none l k hfg.symm, Sem.run_pure]
    | some q =>
      obtain ⟨j, u⟩ := q
      obtain ⟨f1, f2⟩ := fnd_del l k 0 j u hf
      simp only [Nat.sub_zero] at f1 f2
      have : ((l.map toE).toArray.eraseIdxIfInBounds j) = ((delM l k).map toE).toArray := by
        rw [← f1]; simp
      simp only [this, Sem.run_bind, hset, Result.andThen_ok, Sem.run_pure]
  refine ⟨_, _, ?_, rfl, fin _⟩
  simp only [execOp, ho, resolve, invoke, builtin, Sem.run_bind, Sem.run_pure, Result.andThen_ok, List.map_toArray, List.map_cons, List.map_nil, hF.ev hx, hF.ev hk, main]
theorem n_makeMap {t : TypeId} (H : Sep z Γ w) (ho : o.op = .makeMap t none) : GoesL P n ds L o w (fun v w' => ∃ m, v = .map (some m) ∧ Sep z (mapB m [] 0 :: Γ) w') := fun a hF => by
  refine ⟨_, _, ?_, w.heap.size, rfl, H.new (ext_push w (.map #[] 0)) (Nat.le_refl _) (by show (w.heap.push _)[w.heap.size]? = _; simp)⟩
  simp [execOp, ho, Instr.makeMap, newObj, go_sem, Sem.run]

/-- an element of an array that is a value -/
def arrFlat (P : Program) (t : TypeId) : Option Nat := match P.underlying t with
  | some (.array l e) => (match P.info? e with | some i => if Nat.beq i.size 1 && flat P e then some l else none | none => none)
  | _ => none
theorem arrFlat_ok {t : TypeId} {l : Nat} (h : arrFlat P t = some l) : ∃ e i, P.underlying t = some (.array l e) ∧ P.info? e = some i ∧ i.size = 1 ∧ flat P e = true := by
  unfold arrFlat at h
  split at h
  · rename_i l' e h1
    split at h
    · rename_i i h2
      split at h
      · rename_i h3
        simp only [Bool.and_eq_true] at h3
        simp only [Option.some.injEq] at h
        subst h
        exact ⟨e, i, h1, h2, by simpa using h3.1, h3.2⟩
      · cases h
    · cases h
  · cases h
theorem d_indexV {t : TypeId} {vs : List Value} {l : List Int} {i : Int} {k : IntKind} {j m : Nat} {u : Int} (ho : o.op = .index t x y) (ht : arrFlat P t = some m) (hx : ev L x = some (.agg vs.toArray)) (hl : vs = l.map (Value.int .i64)) (hm : l.length = m) (hy : ev L y = some (.int k i)) (hij : i = j) (hu : l[j]? = some u) : DoesL P C n ds L o (.int .i64 u) := fun a hF w _ => by
  obtain ⟨e, i0, ht, hi, hz, hf⟩ := arrFlat_ok ht
  subst hij
  have hj : j < l.length := (List.getElem?_eq_some_iff.1 hu).1
  have h1 : (0 : Int) ≤ (j : Int) ∧ (j : Int) < (m : Int) := by omega
  have hv : vs[j]? = some (.int .i64 u) := by rw [hl, List.getElem?_map, hu]; rfl
  have hpart : (part e vs.toArray (j * 1)).run P w = .ok (.int .i64 u) w := by
    simp only [part, Sem.run_bind, run_flat hf, Result.andThen_ok, if_false, Bool.false_eq_true, Nat.mul_one, List.getElem?_toArray, hv, Sem.run_pure]
  have hso : (sizeOf e).run P w = .ok 1 w := by simp [sizeOf, typeInfo, hi, hz, go_sem]
  simp only [execOp, ho, hF.ev hx, hF.ev hy, Instr.index, asIntOf, Sem.run_bind, Sem.run_pure, Result.andThen_ok, run_underlying ht, if_pos h1, Int.toNat_natCast, hso, hpart]

/-! ### slices whose block is not named -/
def Slc (v : Value) (l : Nat) : Prop := ∃ ao c, v = .slice ao l c
theorem grow.slc {e : TypeId} {sz m : Nat} {u : Value} {xs : List Value} {h : Hp} (g : grow e sz u m xs h) : Slc u m := by
  rcases g.form with ⟨rfl, rfl⟩ | ⟨b, c, rfl, _⟩
  · exact ⟨_, _, rfl⟩
  · exact ⟨_, _, rfl⟩
theorem rdH.slc {sz m : Nat} {u : Value} {xs : List Value} {h : Hp} (g : rdH sz u m xs h) : Slc u m := by
  obtain ⟨ao, c, rfl, _⟩ := g; exact ⟨_, _, rfl⟩
theorem d_lenV {t : TypeId} {sz l : Nat} {u : Value} (ho : o.op = .call { callee := .builtin .len, args := #[x], argTypes := #[t] }) (ht : elemSz P t = some sz) (hx : ev L x = some u) (hu : Slc u l) : DoesL P C n ds L o (.int .i64 l) := by
  obtain ⟨ao, c, rfl⟩ := hu
  exact d_len ho ht hx
theorem Sep.ungrow (i : Nat) {e : TypeId} {sz m : Nat} {u : Value} {xs : List Value} (H : Sep z Γ w) (hi : Γ[i]? = some (YtanejicgmgpjcaaGreatDoor.grow e sz u m xs)) (hm : 0 < m) :
    ∃ g cap rest, u = .slice (some ⟨g, 0, none⟩) m cap ∧ m ≤ cap ∧ cap ≤ 9223372036854775807 ∧ rest.length = (cap - m) * sz ∧ Sep z (Γ.set i (YtanejicgmgpjcaaGreatDoor.blk g (xs ++ rest) e)) w := by
  obtain ⟨⟨g, cap, rest⟩, ⟨a1, a2, a3, a4⟩, hx⟩ := H.exAt i (σ := Nat × Nat × List Value) (p := fun q => u = .slice (some ⟨q.1, 0, none⟩) m q.2.1 ∧ m ≤ q.2.1 ∧ q.2.1 ≤ 9223372036854775807 ∧ q.2.2.length = (q.2.1 - m) * sz) (B := fun q => YtanejicgmgpjcaaGreatDoor.blk q.1 (xs ++ q.2.2) e) hi (fun h g => by
    rcases g.2 with ⟨_, rfl⟩ | ⟨b, cap, cur, hv, hg, hc, hm', hs, ht⟩
    · omega
    · refine ⟨⟨b, cap, cur.toList.drop (m * sz)⟩, ⟨hv, hc, by unfold maxLen at hm'; omega, ?_⟩, ?_⟩
      · simp [hs, Nat.sub_mul]
      · rw [← ht, List.take_append_drop]; simpa [YtanejicgmgpjcaaGreatDoor.blk, YtanejicgmgpjcaaGreatDoor.bk] using hg)
  exact ⟨g, cap, rest, a1, a2, a3, a4, hx⟩

/-- 'x[p:q:q]' -/
theorem d_slice3 {t : TypeId} {lo hi mx : Operand} {b off l c p q sz o' l' : Nat} {k1 k2 k3 : IntKind} {i1 i2 i3 : Int} (ho : o.op = .slice t x (some lo) (some hi) (some mx)) (ht : elemSz P t = some sz) (hx : ev L x = some (.slice (some ⟨b, off, none⟩) l c))
    (hlo : ev L lo = some (.int k1 i1)) (hhi : ev L hi = some (.int k2 i2)) (hmx : ev L mx = some (.int k3 i3)) (e1 : i1 = (p : Int)) (e2 : i2 = (q : Int)) (e3 : i3 = (q : Int)) (hpq : p < q) (hqc : q ≤ c) (h1 : off + p * sz = o') (h2 : q - p = l') : DoesL P C n ds L o (.slice (some ⟨b, o', none⟩) l' l') := fun a hF w _ => by
  obtain ⟨e, i0, ht, hi0, hz⟩ := elemSz_ok ht
  subst e1; subst e2; subst e3
  have g1 : (0 : Int) ≤ (p : Int) ∧ (p : Int) ≤ (q : Int) := by omega
  have g2 : (0 : Int) ≤ (q : Int) ∧ (q : Int) ≤ (c : Int) := by omega
  have g3 : (0 : Int) ≤ (q : Int) ∧ (q : Int) ≤ (q : Int) := by omega
  have key : ((⟨b, off, none⟩ : Addr).add (p * sz)) = ⟨b, o', none⟩ := by
    subst h1
    unfold Addr.add; split
    · rename_i h0; simp [h0]
    · rfl
  have hne : ¬ q = p := by omega
  have hp2 : p ≤ q := by omega
  simp only [execOp, ho, Option.map_some, hF.ev hx, hF.ev hlo, hF.ev hhi, hF.ev hmx]
  simp [Instr.sliceAt, Instr.slice, run_underlying ht, Instr.sliceBounds, Instr.sliceBound, asIntOf, g1, g2, g3, sizeOf, typeInfo, hi0, hz, hp2, hqc, hne, go_sem, key, h2]
end
end Go.Proofs.YtanejicgmgpjcaaGreatDoor
