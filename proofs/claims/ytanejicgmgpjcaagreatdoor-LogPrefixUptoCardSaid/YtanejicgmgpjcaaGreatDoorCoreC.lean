/-
  What single operations do (Does), over any program. No condition.
-/
import Derived.Test.YtanejicgmgpjcaaGreatDoorCoreB
import Derived.IntWalk
namespace Go.Proofs.YtanejicgmgpjcaaGreatDoor
open Go.RowKit

section
variable {P : Program} {C : World → Prop} {o : Oper} {a : Act} {n : Nat} {ds : List Deferred} {L : List (Nat × Value)} {v : Value}

theorem d_move {x : Operand} (ho : o.op = .move x) (hx : ev L x = some v) : DoesL P C n ds L o v := fun a hF w _ => by
  simp only [execOp, ho, hF.ev hx]; rfl
theorem d_assign {x : Operand} (ho : o.op = .assign x) (hx : ev L x = some v) : DoesL P C n ds L o v := fun a hF w _ => by
  simp only [execOp, ho, hF.ev hx]; rfl
theorem d_pick_t {c x y : Operand} (ho : o.op = .pick c x y) (hc : ev L c = some (.bool true)) (hx : ev L x = some v) : DoesL P C n ds L o v := fun a hF w _ => by
  simp only [execOp, ho, hF.ev hc, hF.ev hx]; simp [go_sem]
theorem d_pick_f {c x y : Operand} (ho : o.op = .pick c x y) (hc : ev L c = some (.bool false)) (hx : ev L y = some v) : DoesL P C n ds L o v := fun a hF w _ => by
  simp only [execOp, ho, hF.ev hc, hF.ev hx]; simp [go_sem]

/-! ### what the tables say, in closed form -/
def intTo (P : Program) (s t : TypeId) : Option IntKind := match P.underlying s, P.underlying t with
  | some _, some (.int k) => some k
  | _, _ => none
theorem intTo_ok {s t : TypeId} {k : IntKind} (h : intTo P s t = some k) : ∃ d, P.underlying s = some d ∧ P.underlying t = some (.int k) := by
  unfold intTo at h
  split at h
  · rename_i d k' h1 h2; simp only [Option.some.injEq] at h; subst h; exact ⟨d, h1, h2⟩
  · cases h
def elemSz (P : Program) (t : TypeId) : Option Nat := match P.underlying t with
  | some (.slice e) => (P.info? e).map (·.size)
  | _ => none
theorem elemSz_ok {t : TypeId} {z : Nat} (h : elemSz P t = some z) : ∃ e i, P.underlying t = some (.slice e) ∧ P.info? e = some i ∧ i.size = z := by
  unfold elemSz at h
  split at h
  · rename_i e h1
    cases hi : P.info? e with
    | none => rw [hi] at h; cases h
    | some i => rw [hi] at h; exact ⟨e, i, h1, hi, by simpa using h⟩
  · cases h
def arrSz (P : Program) (t : TypeId) : Option (Nat × Nat) := match P.underlying t with
  | some (.array l e) => (P.info? e).map fun i => (l, i.size)
  | _ => none
theorem arrSz_ok {t : TypeId} {l z : Nat} (h : arrSz P t = some (l, z)) : ∃ e i, P.underlying t = some (.array l e) ∧ P.info? e = some i ∧ i.size = z := by
  unfold arrSz at h
  split at h
  · rename_i l' e h1
    cases hi : P.info? e with
    | none => rw [hi] at h; cases h
    | some i =>
      rw [hi] at h
      simp only [Option.map_some, Option.some.injEq, Prod.mk.injEq] at h
      obtain ⟨rfl, h2⟩ := h
      exact ⟨e, i, h1, hi, h2⟩
  · cases h
def fieldOff (P : Program) (s : TypeId) (f : Nat) : Option Nat := match P.underlying s with
  | some (.struct fs) => match fs[f]? with
    | some fd => match P.info? fd.type with
      | some i => bif Nat.beq i.size 0 then none else some fd.offset
      | none => none
    | none => none
  | _ => none
theorem fieldOff_ok {s : TypeId} {f k : Nat} (h : fieldOff P s f = some k) : ∃ fs fd i, P.underlying s = some (.struct fs) ∧ fs[f]? = some fd ∧ P.info? fd.type = some i ∧ i.size ≠ 0 ∧ fd.offset = k := by
  unfold fieldOff at h
  split at h
  · rename_i fs h1
    split at h
    · rename_i fd h2
      split at h
      · rename_i i h3
        cases hb : Nat.beq i.size 0 with
        | true => rw [hb] at h; cases h
        | false =>
          rw [hb] at h
          exact ⟨fs, fd, i, h1, h2, h3, Nat.ne_of_beq_eq_false hb, by simpa using h⟩
      · cases h
    · cases h
  · cases h
def aggSz (P : Program) (t : TypeId) : Option Nat := match P.underlying t with
  | some (.struct _) => (P.info? t).map (·.size)
  | some (.array _ _) => (P.info? t).map (·.size)
  | _ => none
theorem aggSz_ok {t : TypeId} {z : Nat} (h : aggSz P t = some z) (w : World) : (isAgg t).run P w = .ok true w ∧ (sizeOf t).run P w = .ok z w := by
  have key : ∀ d, P.underlying t = some d → ((d matches .struct _) = true ∨ (d matches .array _ _) = true) → (P.info? t).map (·.size) = some z → (isAgg t).run P w = .ok true w ∧ (sizeOf t).run P w = .ok z w := by
    intro d hd hk hs
    cases hi : P.info? t with
    | none => rw [hi] at hs; cases hs
    | some i =>
      rw [hi] at hs
      simp only [Option.map_some, Option.some.injEq] at hs
      refine ⟨?_, by simp [sizeOf, typeInfo, hi, go_sem, hs]⟩
      unfold isAgg
      simp only [run_underlying hd, go_sem, Sem.run_bind, Result.andThen_ok]
      rcases hk with hk | hk <;> (cases d <;> simp at hk ⊢)
  unfold aggSz at h
  split at h
  · rename_i h1; exact key _ h1 (.inl rfl) h
  · rename_i h1; exact key _ h1 (.inr rfl) h
  · cases h

/-! ### integers -/
section ints
variable {x y : Operand} {xt yt : TypeId} {k : IntKind} {p q : Int}
theorem d_add (ho : o.op = .binOp .add xt x y yt) (hx : ev L x = some (.int k p)) (hy : ev L y = some (.int k q)) : DoesL P C n ds L o (.int k (k.wrap (p + q))) := fun a hF w _ => by
  simp only [execOp, ho, hF.ev hx, hF.ev hy]; simp [go_sem]
theorem d_sub (ho : o.op = .binOp .sub xt x y yt) (hx : ev L x = some (.int k p)) (hy : ev L y = some (.int k q)) : DoesL P C n ds L o (.int k (k.wrap (p - q))) := fun a hF w _ => by
  simp only [execOp, ho, hF.ev hx, hF.ev hy]; simp [go_sem]
theorem d_mul (ho : o.op = .binOp .mul xt x y yt) (hx : ev L x = some (.int k p)) (hy : ev L y = some (.int k q)) : DoesL P C n ds L o (.int k (k.wrap (p * q))) := fun a hF w _ => by
  simp only [execOp, ho, hF.ev hx, hF.ev hy]; simp [go_sem]
theorem d_quo (ho : o.op = .binOp .quo xt x y yt) (hx : ev L x = some (.int k p)) (hy : ev L y = some (.int k q)) (h0 : q ≠ 0) : DoesL P C n ds L o (.int k (k.wrap (p.tdiv q))) := fun a hF w _ => by
  simp only [execOp, ho, hF.ev hx, hF.ev hy]; simp [go_sem, h0]
theorem d_rem (ho : o.op = .binOp .rem xt x y yt) (hx : ev L x = some (.int k p)) (hy : ev L y = some (.int k q)) (h0 : q ≠ 0) : DoesL P C n ds L o (.int k (p.tmod q)) := fun a hF w _ => by
  simp only [execOp, ho, hF.ev hx, hF.ev hy]; simp [go_sem, h0]
theorem d_lss (ho : o.op = .binOp .lss xt x y yt) (hx : ev L x = some (.int k p)) (hy : ev L y = some (.int k q)) : DoesL P C n ds L o (.bool (decide (p < q))) := fun a hF w _ => by
  simp only [execOp, ho, hF.ev hx, hF.ev hy]; simp [go_sem]
theorem d_leq (ho : o.op = .binOp .leq xt x y yt) (hx : ev L x = some (.int k p)) (hy : ev L y = some (.int k q)) : DoesL P C n ds L o (.bool (decide (p ≤ q))) := fun a hF w _ => by
  simp only [execOp, ho, hF.ev hx, hF.ev hy]; simp [go_sem]
theorem d_gtr (ho : o.op = .binOp .gtr xt x y yt) (hx : ev L x = some (.int k p)) (hy : ev L y = some (.int k q)) : DoesL P C n ds L o (.bool (decide (q < p))) := fun a hF w _ => by
  simp only [execOp, ho, hF.ev hx, hF.ev hy]; simp [go_sem]
theorem d_geq (ho : o.op = .binOp .geq xt x y yt) (hx : ev L x = some (.int k p)) (hy : ev L y = some (.int k q)) : DoesL P C n ds L o (.bool (decide (q ≤ p))) := fun a hF w _ => by
  simp only [execOp, ho, hF.ev hx, hF.ev hy]; simp [go_sem]
theorem d_eql (ho : o.op = .binOp .eql xt x y yt) (hx : ev L x = some (.int k p)) (hy : ev L y = some (.int k q)) : DoesL P C n ds L o (.bool (decide (p = q))) := fun a hF w _ => by
  simp only [execOp, ho, hF.ev hx, hF.ev hy]; simp [go_sem]
  rw [Bool.eq_iff_iff]; simp
theorem d_neq (ho : o.op = .binOp .neq xt x y yt) (hx : ev L x = some (.int k p)) (hy : ev L y = some (.int k q)) : DoesL P C n ds L o (.bool (decide (p ≠ q))) := fun a hF w _ => by
  simp only [execOp, ho, hF.ev hx, hF.ev hy]; simp [go_sem]
  rw [Bool.eq_iff_iff]; simp
/-- where the sum fits -/
theorem d_add64 (ho : o.op = .binOp .add xt x y yt) (hx : ev L x = some (.int .i64 p)) (hy : ev L y = some (.int .i64 q)) {r : Int} (hr : p + q = r) (hb : -9223372036854775808 ≤ r ∧ r ≤ 9223372036854775807) : DoesL P C n ds L o (.int .i64 r) := by
  have := d_add (P := P) (C := C) (n := n) (ds := ds) (L := L) ho hx hy
  rwa [hr, IntWalk.i64_in _ hb] at this
theorem d_sub64 (ho : o.op = .binOp .sub xt x y yt) (hx : ev L x = some (.int .i64 p)) (hy : ev L y = some (.int .i64 q)) {r : Int} (hr : p - q = r) (hb : -9223372036854775808 ≤ r ∧ r ≤ 9223372036854775807) : DoesL P C n ds L o (.int .i64 r) := by
  have := d_sub (P := P) (C := C) (n := n) (ds := ds) (L := L) ho hx hy
  rwa [hr, IntWalk.i64_in _ hb] at this
theorem d_mul64 (ho : o.op = .binOp .mul xt x y yt) (hx : ev L x = some (.int .i64 p)) (hy : ev L y = some (.int .i64 q)) {r : Int} (hr : p * q = r) (hb : -9223372036854775808 ≤ r ∧ r ≤ 9223372036854775807) : DoesL P C n ds L o (.int .i64 r) := by
  have := d_mul (P := P) (C := C) (n := n) (ds := ds) (L := L) ho hx hy
  rwa [hr, IntWalk.i64_in _ hb] at this
theorem d_quo64 (ho : o.op = .binOp .quo xt x y yt) (hx : ev L x = some (.int .i64 p)) (hy : ev L y = some (.int .i64 q)) {r : Int} (h0 : 0 ≤ p) (h1 : 0 < q) (hr : p / q = r) (hb : p ≤ 9223372036854775807) : DoesL P C n ds L o (.int .i64 r) := by
  have := d_quo (P := P) (C := C) (n := n) (ds := ds) (L := L) ho hx hy (by omega)
  rw [Int.tdiv_eq_ediv_of_nonneg h0] at this
  have h2 : 0 ≤ p / q := Int.ediv_nonneg h0 (by omega)
  have h3 : p / q ≤ p := Int.ediv_le_self q h0
  rwa [hr, IntWalk.i64_in _ (by omega)] at this
theorem d_rem64 (ho : o.op = .binOp .rem xt x y yt) (hx : ev L x = some (.int k p)) (hy : ev L y = some (.int k q)) {r : Int} (h0 : 0 ≤ p) (h1 : q ≠ 0) (hr : p % q = r) : DoesL P C n ds L o (.int k r) := by
  have := d_rem (P := P) (C := C) (n := n) (ds := ds) (L := L) ho hx hy h1
  rwa [Int.tmod_eq_emod_of_nonneg h0, hr] at this
theorem d_neg (ho : o.op = .unOp .neg xt x) (hx : ev L x = some (.int k p)) : DoesL P C n ds L o (.int k (k.wrap (0 - p))) := fun a hF w _ => by
  simp only [execOp, ho, hF.ev hx]; simp [go_sem]
theorem d_neg64 (ho : o.op = .unOp .neg xt x) (hx : ev L x = some (.int .i64 p)) {r : Int} (hr : -p = r) (hb : -9223372036854775808 ≤ r ∧ r ≤ 9223372036854775807) : DoesL P C n ds L o (.int .i64 r) := by
  have := d_neg (P := P) (C := C) (n := n) (ds := ds) (L := L) ho hx
  rwa [show (0 : Int) - p = r from by omega, IntWalk.i64_in _ hb] at this
theorem d_conv {dt : TypeId} {k' : IntKind} (ho : o.op = .convert xt dt x) (h1 : intTo P xt dt = some k') (hx : ev L x = some (.int k p)) : DoesL P C n ds L o (.int k' (k'.wrap p)) := fun a hF w _ => by
  obtain ⟨d0, h0, h1⟩ := intTo_ok h1
  simp only [execOp, ho, hF.ev hx]; simp [convert, run_underlying h0, run_underlying h1, go_sem]
theorem d_conv64 {dt : TypeId} {k' : IntKind} (ho : o.op = .convert xt dt x) (h1 : intTo P xt dt = some k') (hx : ev L x = some (.int k p)) {r : Int} (hr : k'.wrap p = r) : DoesL P C n ds L o (.int k' r) := by
  have := d_conv (P := P) (C := C) (n := n) (ds := ds) (L := L) ho h1 hx
  rwa [hr] at this
end ints

/-! ### Bools -/
def isBool (P : Program) (t : TypeId) : Bool := match P.underlying t with | some .bool => true | _ => false
theorem isBool_ok {t : TypeId} (h : isBool P t = true) : P.underlying t = some .bool := by
  unfold isBool at h; split at h
  · assumption
  · cases h
theorem d_not {xt : TypeId} {x : Operand} (ho : o.op = .unOp .not xt x) {b : Bool} (hx : ev L x = some (.bool b)) : DoesL P C n ds L o (.bool !b) := fun a hF w _ => by
  simp only [execOp, ho, hF.ev hx]; simp [go_sem]
theorem d_not_dec {xt : TypeId} {x : Operand} (ho : o.op = .unOp .not xt x) {p : Prop} [Decidable p] (hx : ev L x = some (.bool (decide p))) : DoesL P C n ds L o (.bool (decide (¬ p))) := fun a hF w _ => by
  simp only [execOp, ho, hF.ev hx]; simp [go_sem]
theorem d_eqlB {xt yt : TypeId} {x y : Operand} (ho : o.op = .binOp .eql xt x y yt) {b c : Bool} (ht : isBool P xt = true) (hx : ev L x = some (.bool b)) (hy : ev L y = some (.bool c)) : DoesL P C n ds L o (.bool (decide (b = c))) := fun a hF w _ => by
  have ht := isBool_ok ht
  simp only [execOp, ho, hF.ev hx, hF.ev hy]; simp [ht, go_sem]
  cases b <;> cases c <;> rfl
theorem d_neqB {xt yt : TypeId} {x y : Operand} (ho : o.op = .binOp .neq xt x y yt) {b c : Bool} (ht : isBool P xt = true) (hx : ev L x = some (.bool b)) (hy : ev L y = some (.bool c)) : DoesL P C n ds L o (.bool (decide (b ≠ c))) := fun a hF w _ => by
  have ht := isBool_ok ht
  simp only [execOp, ho, hF.ev hx, hF.ev hy]; simp [ht, go_sem]
  cases b <;> cases c <;> rfl

/-! ### memory -/
def flat (P : Program) (t : TypeId) : Bool := match P.underlying t with
  | some (.struct _) => false
  | some (.array _ _) => false
  | some _ => true
  | none => false
theorem run_flat {t : TypeId} (h : flat P t = true) (w : World) : (isAgg t).run P w = .ok false w := by
  unfold flat at h
  unfold isAgg
  cases hu : P.underlying t with
  | none => rw [hu] at h; cases h
  | some d => rw [hu] at h; simp [run_underlying hu, go_sem]; cases d <;> simp at h ⊢
theorem d_load {t : TypeId} {x : Operand} {b p : Nat} (ho : o.op = .load t x) (hx : ev L x = some (.pointer (some ⟨b, p, none⟩))) (ht : flat P t = true) (hc : ∀ w, C w → Cel b p v w) : DoesL P C n ds L o v := fun a hF w hw => by
  have := hc w hw
  unfold Cel at this
  simp only [execOp, ho, hF.ev hx]; simp [Instr.loadAt, Instr.sureAddr, loadVar, run_flat ht, go_sem, this]

theorem d_loadAgg {t : TypeId} {x : Operand} {b p : Nat} {vs : List Value} (ho : o.op = .load t x) (hx : ev L x = some (.pointer (some ⟨b, p, none⟩)))
    (ht : aggSz P t = some vs.length) (hc : ∀ w, C w → ∀ j u, vs[j]? = some u → Cel b (p + j) u w) : DoesL P C n ds L o (.agg vs.toArray) := fun a hF w hw => by
  have hl := run_loadCells_list (P := P) w ⟨b, p, none⟩ vs (fun j u hj => by
    have := hc w hw j u hj
    have e : (Addr.add ⟨b, p, none⟩ j) = ⟨b, p + j, none⟩ := by
      unfold Addr.add; split
      · rename_i h0; simp [h0]
      · rfl
    rw [e]; exact this)
  obtain ⟨hagg, hsz⟩ := aggSz_ok ht w
  simp only [execOp, ho, hF.ev hx, Instr.loadAt, Instr.sureAddr, loadVar, Sem.run_bind, Sem.run_pure, Result.andThen_ok, hagg, if_true, hsz, hl]

/-- a part of a block that is known whole -/
theorem Blk.part {b : Nat} {cs : List Value} {ty : TypeId} {w : World} (h : Blk b cs ty w) (p k : Nat) (vs : List Value) (hv : vs = (cs.drop p).take k) : ∀ j u, vs[j]? = some u → Cel b (p + j) u w := fun j u hj => by
  subst hv
  refine h.cel _ ?_
  rw [List.getElem?_take] at hj
  split at hj
  · rw [List.getElem?_drop] at hj; exact hj
  · cases hj

def isStr (P : Program) (t : TypeId) : Bool := match P.underlying t with | some .string => true | _ => false
theorem isStr_ok {t : TypeId} (h : isStr P t = true) : P.underlying t = some .string := by
  unfold isStr at h; split at h
  · assumption
  · cases h
/-! ### slices -/
theorem d_len {x : Operand} {t z : TypeId} {ao : Option Addr} {l c : Nat} (ho : o.op = .call { callee := .builtin .len, args := #[x], argTypes := #[t] }) (ht : elemSz P t = some z) (hx : ev L x = some (.slice ao l c)) : DoesL P C n ds L o (.int .i64 l) := fun a hF w _ => by
  obtain ⟨e, i, ht, _, _⟩ := elemSz_ok ht
  simp only [execOp, ho, hF.ev hx, resolve, List.map_toArray, List.map_cons, List.map_nil]; simp [invoke, builtin, Builtin.len_, run_underlying ht, goInt, go_sem]
theorem d_lenS {x : Operand} {t : TypeId} {s : ByteArray} (ho : o.op = .call { callee := .builtin .len, args := #[x], argTypes := #[t] }) (ht : isStr P t = true) (hx : ev L x = some (.string s)) : DoesL P C n ds L o (.int .i64 s.size) := fun a hF w _ => by
  have ht := isStr_ok ht
  simp only [execOp, ho, hF.ev hx, resolve, List.map_toArray, List.map_cons, List.map_nil]; simp [invoke, builtin, Builtin.len_, run_underlying ht, goInt, go_sem]
theorem d_max {x y : Operand} {t u : TypeId} {k k' : IntKind} {p q : Int} (ho : o.op = .call { callee := .builtin .max, args := #[x, y], argTypes := #[t, u] }) (hx : ev L x = some (.int k p)) (hy : ev L y = some (.int k' q)) : DoesL P C n ds L o (.int k (max p q)) := fun a hF w _ => by
  simp only [execOp, ho, hF.ev hx, hF.ev hy, resolve, List.map_toArray, List.map_cons, List.map_nil]; simp [invoke, builtin, Builtin.max_, Builtin.max2, go_sem]
  omega
theorem d_min {x y : Operand} {t u : TypeId} {k k' : IntKind} {p q : Int} (ho : o.op = .call { callee := .builtin .min, args := #[x, y], argTypes := #[t, u] }) (hx : ev L x = some (.int k p)) (hy : ev L y = some (.int k' q)) : DoesL P C n ds L o (.int k (min p q)) := fun a hF w _ => by
  simp only [execOp, ho, hF.ev hx, hF.ev hy, resolve, List.map_toArray, List.map_cons, List.map_nil]; simp [invoke, builtin, Builtin.min_, Builtin.min2, go_sem]
  omega

/-- a field's address: offset k, not of size nought -/
theorem d_field {s : TypeId} {x : Operand} {f : Nat} {b p k r : Nat} (ho : o.op = .fieldAddr s x f) (hs : fieldOff P s f = some k) (hx : ev L x = some (.pointer (some ⟨b, p, none⟩))) (hr : p + k = r) : DoesL P C n ds L o (.pointer (some ⟨b, r, none⟩)) := fun a hF w _ => by
  obtain ⟨fs, fd, i0, hs, hf, hi, hz, hk⟩ := fieldOff_ok hs
  have e : (Addr.add ⟨b, p, none⟩ fd.offset) = ⟨b, r, none⟩ := by
    unfold Addr.add; split
    · rename_i h0; simp only [Addr.mk.injEq, true_and, and_true]; omega
    · simp only [Addr.mk.injEq, true_and, and_true]; omega
  simp only [execOp, ho, hF.ev hx]; simp [Instr.fieldAt, run_underlying hs, hf, Instr.sureAddr, fieldPlace, sizeOf, typeInfo, hi, hz, e, go_sem]

/-- an element's address -/
theorem d_index {t : TypeId} {x y : Operand} {b p l c j z : Nat} {i : Int} {k : IntKind} (ho : o.op = .indexAddr t x y) (ht : elemSz P t = some z)
    (hx : ev L x = some (.slice (some ⟨b, p, none⟩) l c)) (hy : ev L y = some (.int k i)) (hij : i = j) (hl : j < l) {r : Nat} (hr : p + j * z = r) : DoesL P C n ds L o (.pointer (some ⟨b, r, none⟩)) := fun a hF w _ => by
  obtain ⟨e, i0, ht, hi, hz⟩ := elemSz_ok ht
  subst hij
  have h1 : (0 : Int) ≤ (j : Int) ∧ (j : Int) < (l : Int) := by omega
  simp only [execOp, ho, hF.ev hx, hF.ev hy]; simp [Instr.indexAt, run_underlying ht, sizeOf, typeInfo, hi, hz, h1, hl, hr, go_sem, asIntOf]
/-- cell k behind an address holds v -/
def At (ao : Option Addr) (k : Nat) (v : Value) (w : World) : Prop := ∃ b p, ao = some ⟨b, p, none⟩ ∧ Cel b (p + k) v w
theorem At.ext {F : Nat → Prop} {ao : Option Addr} {k : Nat} {v : Value} {w w' : World} (h : At ao k v w) (x : Ext F w w') (hf : ∀ b p, ao = some ⟨b, p, none⟩ → ¬ F b) : At ao k v w' := by
  obtain ⟨b, p, e, hc⟩ := h
  exact ⟨b, p, e, hc.ext x (hf b p e)⟩
theorem At.ext0 {ao : Option Addr} {k : Nat} {v : Value} {w w' : World} (h : At ao k v w) (x : Ext No w w') : At ao k v w' := h.ext x fun _ _ _ q => q
/-- the address of cell k behind an address -/
def eptr (ao : Option Addr) (k : Nat) : Value := .pointer (ao.map fun a => ⟨a.block, a.off + k, none⟩)
theorem d_indexE {t : TypeId} {x y : Operand} {ao : Option Addr} {l c j z : Nat} {i : Int} {k : IntKind} {u : Value} {w0 : World} {q : Nat} (ho : o.op = .indexAddr t x y) (ht : elemSz P t = some z)
    (hx : ev L x = some (.slice ao l c)) (hy : ev L y = some (.int k i)) (hij : i = j) (hl : j < l) (hat : At ao q u w0) {r : Nat} (hr : j * z = r) : DoesL P C n ds L o (eptr ao r) := fun a hF w _ => by
  obtain ⟨e, i0, ht, hi, hz⟩ := elemSz_ok ht
  obtain ⟨b, p, rfl, _⟩ := hat
  subst hij
  have h1 : (0 : Int) ≤ (j : Int) ∧ (j : Int) < (l : Int) := by omega
  simp only [execOp, ho, hF.ev hx, hF.ev hy]; simp [Instr.indexAt, run_underlying ht, sizeOf, typeInfo, hi, hz, h1, hl, hr, eptr, go_sem, asIntOf]
theorem d_fieldE {s : TypeId} {x : Operand} {f : Nat} {ao : Option Addr} {p k r q : Nat} {u : Value} {w0 : World} (ho : o.op = .fieldAddr s x f) (hs : fieldOff P s f = some k) (hx : ev L x = some (eptr ao p)) (hat : At ao q u w0) (hr : p + k = r) : DoesL P C n ds L o (eptr ao r) := fun a hF w hw => by
  obtain ⟨b, p', rfl, _⟩ := hat
  have := d_field (P := P) (C := C) (r := p' + r) ho hs (show ev L x = some (.pointer (some ⟨b, p' + p, none⟩)) from hx) (by omega) a hF w hw
  simpa [eptr] using this
theorem d_loadE {t : TypeId} {x : Operand} {ao : Option Addr} {k : Nat} (ho : o.op = .load t x) (hx : ev L x = some (eptr ao k)) (ht : flat P t = true) (hc : ∀ w, C w → At ao k v w) : DoesL P C n ds L o v := fun a hF w hw => by
  obtain ⟨b, p, rfl, h⟩ := hc w hw
  exact d_load (P := P) (C := (· = w)) ho hx ht (here h) a hF w rfl
theorem d_loadAggE {t : TypeId} {x : Operand} {ao : Option Addr} {k : Nat} {vs : List Value} (ho : o.op = .load t x) (hx : ev L x = some (eptr ao k))
    (ht : aggSz P t = some vs.length) (hne : vs ≠ []) (hc : ∀ w, C w → ∀ j u, vs[j]? = some u → At ao (k + j) u w) : DoesL P C n ds L o (.agg vs.toArray) := fun a hF w hw => by
  cases vs with
  | nil => exact absurd rfl hne
  | cons u us =>
    obtain ⟨b, p, rfl, _⟩ := hc w hw 0 u rfl
    refine d_loadAgg (P := P) (C := (· = w)) ho hx ht (here fun j x hj => ?_) a hF w rfl
    obtain ⟨b', p', e, h⟩ := hc w hw j x hj
    simp only [Option.some.injEq, Addr.mk.injEq, and_true] at e
    obtain ⟨rfl, rfl⟩ := e
    rw [Nat.add_assoc]; exact h
/-- an element's address in an array -/
theorem d_indexA {t : TypeId} {x y : Operand} {b p l j z : Nat} {i : Int} {k : IntKind} (ho : o.op = .indexAddr t x y) (ht : arrSz P t = some (l, z))
    (hx : ev L x = some (.pointer (some ⟨b, p, none⟩))) (hy : ev L y = some (.int k i)) (hij : i = j) (hl : j < l) {r : Nat} (hr : p + j * z = r) : DoesL P C n ds L o (.pointer (some ⟨b, r, none⟩)) := fun a hF w _ => by
  obtain ⟨e, i0, ht, hi, hz⟩ := arrSz_ok ht
  subst hij
  have h1 : (0 : Int) ≤ (j : Int) ∧ (j : Int) < (l : Int) := by omega
  simp only [execOp, ho, hF.ev hx, hF.ev hy]; simp [Instr.indexAt, run_underlying ht, Instr.sureAddr, sizeOf, typeInfo, hi, hz, h1, hl, hr, go_sem, asIntOf]

theorem d_extract {x : Operand} {i : Nat} {vs : List Value} (ho : o.op = .extract x i) (hx : ev L x = some (.tuple vs.toArray)) (hi : vs[i]? = some v) : DoesL P C n ds L o v := fun a hF w _ => by
  simp only [execOp, ho, hF.ev hx]; simp [Instr.extract, hi, go_sem]
theorem d_nilCheck {x : Operand} {ad : Addr} (ho : o.op = .nilCheck x) (hx : ev L x = some (.pointer (some ad))) : DoesL P C n ds L o (.pointer (some ad)) := fun a hF w _ => by
  simp only [execOp, ho, hF.ev hx]; simp [go_sem]
/-- a cut of a slice: 'x[lo:hi]' -/
theorem d_slice {t : TypeId} {x : Operand} {lo hi : Option Operand} {ao : Option Addr} {l c p q z : Nat} (ho : o.op = .slice t x lo hi none) (ht : elemSz P t = some z)
    (hx : ev L x = some (.slice ao l c)) (hlo : (lo = none ∧ p = 0) ∨ ∃ y k i, lo = some y ∧ ev L y = some (.int k i) ∧ i = (p : Int)) (hhi : (hi = none ∧ q = l) ∨ ∃ y k i, hi = some y ∧ ev L y = some (.int k i) ∧ i = (q : Int)) (hpq : p ≤ q) (hqc : q ≤ c) :
    DoesL P C n ds L o (.slice (if c = p then ao else ao.map (·.add (p * z))) (q - p) (c - p)) := fun a hF w _ => by
  obtain ⟨e, i0, ht, hi0, hz⟩ := elemSz_ok ht
  have h1 : (0 : Int) ≤ (p : Int) ∧ (p : Int) ≤ (q : Int) := by omega
  have h2 : (0 : Int) ≤ (q : Int) ∧ (q : Int) ≤ (c : Int) := by omega
  rcases hlo with ⟨rfl, rfl⟩ | ⟨y, k, i, rfl, hy, rfl⟩ <;> rcases hhi with ⟨rfl, rfl⟩ | ⟨y', k', i', rfl, hy', rfl⟩
  · simp only [execOp, ho, Option.map_some, Option.map_none, hF.ev hx]; simp [Instr.sliceAt, Instr.slice, run_underlying ht, Instr.sliceBounds, sizeOf, typeInfo, hi0, hz, hpq, hqc, go_sem] <;> (try (intro; omega))
  · simp only [execOp, ho, Option.map_some, Option.map_none, hF.ev hx, hF.ev hy']; simp [Instr.sliceAt, Instr.slice, run_underlying ht, Instr.sliceBounds, Instr.sliceBound, asIntOf, h2, sizeOf, typeInfo, hi0, hz, hpq, hqc, go_sem] <;> (try (intro; omega))
  · simp only [execOp, ho, Option.map_some, Option.map_none, hF.ev hx, hF.ev hy]; simp [Instr.sliceAt, Instr.slice, run_underlying ht, Instr.sliceBounds, Instr.sliceBound, asIntOf, h1, sizeOf, typeInfo, hi0, hz, hpq, hqc, go_sem] <;> (try (intro; omega))
  · simp only [execOp, ho, Option.map_some, Option.map_none, hF.ev hx, hF.ev hy, hF.ev hy']; simp [Instr.sliceAt, Instr.slice, run_underlying ht, Instr.sliceBounds, Instr.sliceBound, asIntOf, h1, h2, sizeOf, typeInfo, hi0, hz, hpq, hqc, go_sem] <;> (try (intro; omega))
end
end Go.Proofs.YtanejicgmgpjcaaGreatDoor
