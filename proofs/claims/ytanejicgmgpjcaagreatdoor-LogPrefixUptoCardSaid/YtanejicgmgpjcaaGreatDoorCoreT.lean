/-
  Operations over memory in parts; bytes and words; calls by their contracts. Over any program. No condition.
-/
import Derived.Test.YtanejicgmgpjcaaGreatDoorCoreS
import Derived.Test.YtanejicgmgpjcaaGreatDoorCoreE
namespace Go.Proofs.YtanejicgmgpjcaaGreatDoor
open Go.RowKit

/-! ### Bytes and words -/
def u8 (b : UInt8) : Value := .int .u8 b.toNat
def u32 (b : UInt32) : Value := .int .u32 b.toNat
def byt (x : Int) : UInt8 := UInt8.ofNat (x % 256).toNat
def w32 (x : Int) : UInt32 := UInt32.ofNat (x % 4294967296).toNat
theorem wrap8 (x : Int) : IntKind.u8.wrap x = (byt x).toNat := by
  simp [byt, IntKind.wrap, IntKind.bits, IntKind.signed]; omega
theorem wrap32' (x : Int) : IntKind.u32.wrap x = (w32 x).toNat := by
  simp [w32, IntKind.wrap, IntKind.bits, IntKind.signed]; omega
theorem byt_of (b : UInt8) : byt b.toNat = b := by
  apply UInt8.toNat_inj.1; have := b.toNat_lt; simp [byt]; omega
theorem w32_of (b : UInt32) : w32 b.toNat = b := by
  apply UInt32.toNat_inj.1; have := b.toNat_lt; simp [w32]; omega
theorem u8_wrap (x : Int) : Value.int .u8 (IntKind.u8.wrap x) = u8 (byt x) := congrArg _ (wrap8 x)
theorem u32_wrap (x : Int) : Value.int .u32 (IntKind.u32.wrap x) = u32 (w32 x) := congrArg _ (wrap32' x)
theorem u8_one (b : UInt8) : (u8 b).oneCell' = true := rfl
theorem u8_inj {a b : UInt8} (h : u8 a = u8 b) : a = b := by
  simp only [u8, Value.int.injEq, true_and] at h
  exact UInt8.toNat_inj.1 (by omega)

section
variable {P : Program} {C : World → Prop} {o : Oper} {a : Act} {w z : World} {Γ : List Asn} {n : Nat} {ds : List Deferred} {L : List (Nat × Value)} {v : Value} {x y : Operand} {xt yt : TypeId}

theorem d_xor8 {p q : UInt8} (ho : o.op = .binOp .xor xt x y yt) (hx : ev L x = some (u8 p)) (hy : ev L y = some (u8 q)) : DoesL P C n ds L o (u8 (p ^^^ q)) := fun a hF w _ => by
  simp only [execOp, ho, hF.ev hx, hF.ev hy, u8]
  simp [go_sem, Op.intBits, IntKind.wrap, IntKind.bits, IntKind.signed]
  have := (p ^^^ q).toNat_lt
  rw [← UInt8.toNat_xor]
  show (((p ^^^ q).toNat : Int)) % 256 = ((p ^^^ q).toNat : Int)
  omega
theorem d_eql8 {p q : UInt8} (ho : o.op = .binOp .eql xt x y yt) {k : IntKind} (ht : intTo P xt xt = some k) (hx : ev L x = some (u8 p)) (hy : ev L y = some (u8 q)) : DoesL P C n ds L o (.bool (decide (p = q))) := fun a hF w _ => by
  obtain ⟨d, h0, h1⟩ := intTo_ok ht
  simp only [execOp, ho, hF.ev hx, hF.ev hy, u8]
  simp [h1, go_sem]
  rw [Bool.eq_iff_iff]; simp
  exact ⟨fun h => UInt8.toNat_inj.1 (by omega), fun h => by rw [h]⟩
theorem d_neq8 {p q : UInt8} (ho : o.op = .binOp .neq xt x y yt) {k : IntKind} (ht : intTo P xt xt = some k) (hx : ev L x = some (u8 p)) (hy : ev L y = some (u8 q)) : DoesL P C n ds L o (.bool (decide (p ≠ q))) := fun a hF w _ => by
  obtain ⟨d, h0, h1⟩ := intTo_ok ht
  simp only [execOp, ho, hF.ev hx, hF.ev hy, u8]
  simp [h1, go_sem]
  rw [Bool.eq_iff_iff]; simp
  exact ⟨fun h e => h (by rw [e]), fun h e => h (UInt8.toNat_inj.1 (by omega))⟩
theorem d_eql32 {p q : UInt32} (ho : o.op = .binOp .eql xt x y yt) {k : IntKind} (ht : intTo P xt xt = some k) (hx : ev L x = some (u32 p)) (hy : ev L y = some (u32 q)) : DoesL P C n ds L o (.bool (decide (p = q))) := fun a hF w _ => by
  obtain ⟨d, h0, h1⟩ := intTo_ok ht
  simp only [execOp, ho, hF.ev hx, hF.ev hy, u32]
  simp [h1, go_sem]
  rw [Bool.eq_iff_iff]; simp
  exact ⟨fun h => UInt32.toNat_inj.1 (by omega), fun h => by rw [h]⟩
theorem d_neq32 {p q : UInt32} (ho : o.op = .binOp .neq xt x y yt) {k : IntKind} (ht : intTo P xt xt = some k) (hx : ev L x = some (u32 p)) (hy : ev L y = some (u32 q)) : DoesL P C n ds L o (.bool (decide (p ≠ q))) := fun a hF w _ => by
  obtain ⟨d, h0, h1⟩ := intTo_ok ht
  simp only [execOp, ho, hF.ev hx, hF.ev hy, u32]
  simp [h1, go_sem]
  rw [Bool.eq_iff_iff]; simp
  exact ⟨fun h e => h (by rw [e]), fun h e => h (UInt32.toNat_inj.1 (by omega))⟩
theorem d_xor32 {p q : UInt32} (ho : o.op = .binOp .xor xt x y yt) (hx : ev L x = some (u32 p)) (hy : ev L y = some (u32 q)) : DoesL P C n ds L o (u32 (p ^^^ q)) := fun a hF w _ => by
  simp only [execOp, ho, hF.ev hx, hF.ev hy, u32]
  simp [go_sem, Op.intBits, IntKind.wrap, IntKind.bits, IntKind.signed]
  have := (p ^^^ q).toNat_lt
  rw [← UInt32.toNat_xor]
  show (((p ^^^ q).toNat : Int)) % 4294967296 = ((p ^^^ q).toNat : Int)
  omega
theorem d_and32 {p q : UInt32} (ho : o.op = .binOp .and xt x y yt) (hx : ev L x = some (u32 p)) (hy : ev L y = some (u32 q)) : DoesL P C n ds L o (u32 (p &&& q)) := fun a hF w _ => by
  simp only [execOp, ho, hF.ev hx, hF.ev hy, u32]
  simp [go_sem, Op.intBits, IntKind.wrap, IntKind.bits, IntKind.signed]
  have := (p &&& q).toNat_lt
  rw [← UInt32.toNat_and]
  show (((p &&& q).toNat : Int)) % 4294967296 = ((p &&& q).toNat : Int)
  omega
theorem d_mul32 {p q : UInt32} (ho : o.op = .binOp .mul xt x y yt) (hx : ev L x = some (u32 p)) (hy : ev L y = some (u32 q)) : DoesL P C n ds L o (u32 (p * q)) := fun a hF w _ => by
  simp only [execOp, ho, hF.ev hx, hF.ev hy, u32]
  simp [go_sem, IntKind.wrap, IntKind.bits, IntKind.signed, UInt32.toNat_mul]
theorem d_shr32 {p : UInt32} {k : IntKind} {m : Int} {n' : UInt32} (ho : o.op = .binOp .shr xt x y yt) (hx : ev L x = some (u32 p)) (hy : ev L y = some (.int k m)) (hm : 0 ≤ m ∧ m < 32 ∧ n' = UInt32.ofNat m.toNat) : DoesL P C n ds L o (u32 (p >>> n')) := fun a hF w _ => by
  obtain ⟨h0, h1, rfl⟩ := hm
  obtain ⟨j, rfl⟩ := Int.eq_ofNat_of_zero_le h0
  simp only [execOp, ho, hF.ev hx, hF.ev hy, u32]
  have hj : ¬ ((j : Int) < 0) := by omega
  have hj2 : min j 32 = j := by omega
  simp [go_sem, Op.shift, IntKind.bits, hj, hj2, UInt32.toNat_shiftRight]
  rw [Int.shiftRight_eq_div_pow]; simp
  rw [Nat.mod_eq_of_lt (by omega)]
theorem d_not32 {p : UInt32} (ho : o.op = .unOp .xor xt x) (hx : ev L x = some (u32 p)) : DoesL P C n ds L o (u32 (4294967295 ^^^ p)) := fun a hF w _ => by
  simp only [execOp, ho, hF.ev hx, u32]
  simp [go_sem, Op.intBits, IntKind.max, IntKind.wrap, IntKind.bits, IntKind.signed]
  have := (4294967295 ^^^ p).toNat_lt
  have e : (4294967295 ^^^ p).toNat = 4294967295 ^^^ p.toNat := UInt32.toNat_xor _ _
  rw [← e]
  show (((4294967295 ^^^ p).toNat : Int)) % 4294967296 = ((4294967295 ^^^ p).toNat : Int)
  omega

/-! conversions -/
theorem d_to8 {dt : TypeId} {k : IntKind} {p : Int} (ho : o.op = .convert xt dt x) (h1 : intTo P xt dt = some .u8) (hx : ev L x = some (.int k p)) : DoesL P C n ds L o (u8 (byt p)) := by
  have := d_conv (P := P) (C := C) (n := n) (ds := ds) (L := L) ho h1 hx
  rwa [u8_wrap] at this
theorem d_to32 {dt : TypeId} {k : IntKind} {p : Int} (ho : o.op = .convert xt dt x) (h1 : intTo P xt dt = some .u32) (hx : ev L x = some (.int k p)) : DoesL P C n ds L o (u32 (w32 p)) := by
  have := d_conv (P := P) (C := C) (n := n) (ds := ds) (L := L) ho h1 hx
  rwa [u32_wrap] at this
theorem d_of8 {dt : TypeId} {p : UInt8} (ho : o.op = .convert xt dt x) (h1 : intTo P xt dt = some .i64) (hx : ev L x = some (u8 p)) : DoesL P C n ds L o (.int .i64 p.toNat) := by
  have := d_conv (P := P) (C := C) (n := n) (ds := ds) (L := L) ho h1 hx
  have hp := p.toNat_lt
  rwa [IntWalk.i64_in _ (by omega)] at this
theorem d_of32 {dt : TypeId} {p : UInt32} (ho : o.op = .convert xt dt x) (h1 : intTo P xt dt = some .i64) (hx : ev L x = some (u32 p)) : DoesL P C n ds L o (.int .i64 p.toNat) := by
  have := d_conv (P := P) (C := C) (n := n) (ds := ds) (L := L) ho h1 hx
  have hp := p.toNat_lt
  rwa [IntWalk.i64_in _ (by omega)] at this
theorem d_32to8 {dt : TypeId} {p : UInt32} (ho : o.op = .convert xt dt x) (h1 : intTo P xt dt = some .u8) (hx : ev L x = some (u32 p)) : DoesL P C n ds L o (u8 p.toUInt8) := by
  have := d_to8 (P := P) (C := C) (n := n) (ds := ds) (L := L) ho h1 hx
  have e : byt p.toNat = p.toUInt8 := by
    apply UInt8.toNat_inj.1; simp [byt]; omega
  rwa [e] at this
theorem d_8to32 {dt : TypeId} {p : UInt8} (ho : o.op = .convert xt dt x) (h1 : intTo P xt dt = some .u32) (hx : ev L x = some (u8 p)) : DoesL P C n ds L o (u32 p.toUInt32) := by
  have := d_to32 (P := P) (C := C) (n := n) (ds := ds) (L := L) ho h1 hx
  have hp := p.toNat_lt
  have e : w32 p.toNat = p.toUInt32 := by
    apply UInt32.toNat_inj.1; simp [w32]; omega
  rwa [e] at this

/-! pointers, slices, maps against nil -/
def isPtr (P : Program) (t : TypeId) : Bool := match P.underlying t with | some (.pointer _) => true | _ => false
theorem isPtr_ok {t : TypeId} (h : isPtr P t = true) : ∃ e, P.underlying t = some (.pointer e) := by
  unfold isPtr at h; split at h
  · exact ⟨_, by assumption⟩
  · cases h
def isSl (P : Program) (t : TypeId) : Bool := match P.underlying t with | some (.slice _) => true | _ => false
theorem isSl_ok {t : TypeId} (h : isSl P t = true) : ∃ e, P.underlying t = some (.slice e) := by
  unfold isSl at h; split at h
  · exact ⟨_, by assumption⟩
  · cases h
theorem d_eql_pn {ad : Addr} (ho : o.op = .binOp .eql xt x y yt) (ht : isPtr P xt = true) (hx : ev L x = some (.pointer (some ad))) (hy : ev L y = some (.pointer none)) : DoesL P C n ds L o (.bool false) := fun a hF w _ => by
  obtain ⟨e, ht⟩ := isPtr_ok ht
  simp only [execOp, ho, hF.ev hx, hF.ev hy]; simp [ht, go_sem]
theorem d_neq_pn {ad : Addr} (ho : o.op = .binOp .neq xt x y yt) (ht : isPtr P xt = true) (hx : ev L x = some (.pointer (some ad))) (hy : ev L y = some (.pointer none)) : DoesL P C n ds L o (.bool true) := fun a hF w _ => by
  obtain ⟨e, ht⟩ := isPtr_ok ht
  simp only [execOp, ho, hF.ev hx, hF.ev hy]; simp [ht, go_sem]
theorem d_eql_nn (ho : o.op = .binOp .eql xt x y yt) (ht : isPtr P xt = true) (hx : ev L x = some (.pointer none)) (hy : ev L y = some (.pointer none)) : DoesL P C n ds L o (.bool true) := fun a hF w _ => by
  obtain ⟨e, ht⟩ := isPtr_ok ht
  simp only [execOp, ho, hF.ev hx, hF.ev hy]; simp [ht, go_sem]
theorem d_neq_nn (ho : o.op = .binOp .neq xt x y yt) (ht : isPtr P xt = true) (hx : ev L x = some (.pointer none)) (hy : ev L y = some (.pointer none)) : DoesL P C n ds L o (.bool false) := fun a hF w _ => by
  obtain ⟨e, ht⟩ := isPtr_ok ht
  simp only [execOp, ho, hF.ev hx, hF.ev hy]; simp [ht, go_sem]
theorem d_eql_sn {ad : Addr} {l c : Nat} (ho : o.op = .binOp .eql xt x y yt) (ht : isSl P xt = true) (hx : ev L x = some (.slice (some ad) l c)) (hy : ev L y = some (.slice none 0 0)) : DoesL P C n ds L o (.bool false) := fun a hF w _ => by
  obtain ⟨e, ht⟩ := isSl_ok ht
  simp only [execOp, ho, hF.ev hx, hF.ev hy]; simp [Lib.run_eql_slice_nil _ _ e _ _ _ _ _ ht, go_sem]
theorem d_eql_ss (ho : o.op = .binOp .eql xt x y yt) (ht : isSl P xt = true) (hx : ev L x = some (.slice none 0 0)) (hy : ev L y = some (.slice none 0 0)) : DoesL P C n ds L o (.bool true) := fun a hF w _ => by
  obtain ⟨e, ht⟩ := isSl_ok ht
  simp only [execOp, ho, hF.ev hx, hF.ev hy]; simp [Lib.run_eql_slice_nil _ _ e _ _ _ _ _ ht, go_sem]
theorem d_makeFunc {f : Fn} {bs cs : List Operand} {us vs : List Value} (ho : o.op = .makeFunc f bs.toArray cs.toArray) (hb : evs L bs = some us) (hc : evs L cs = some vs) : DoesL P C n ds L o (.func f us.toArray vs.toArray) := fun a hF w _ => by
  have e1 := hF.evs hb
  have e2 := hF.evs hc
  simp only [execOp, ho, List.map_toArray, e1, e2]; rfl

/-! cuts of what is known -/
def arrPtr (P : Program) (t : TypeId) : Option (Nat × Nat) := match P.underlying t with
  | some (.pointer a) => arrSz P a
  | _ => none
theorem arrPtr_ok {t : TypeId} {l z : Nat} (h : arrPtr P t = some (l, z)) : ∃ a e i, P.underlying t = some (.pointer a) ∧ P.underlying a = some (.array l e) ∧ P.info? e = some i ∧ i.size = z := by
  unfold arrPtr at h
  split at h
  · rename_i a h1
    obtain ⟨e, i, h2, h3, h4⟩ := arrSz_ok h
    exact ⟨a, e, i, h1, h2, h3, h4⟩
  · cases h
theorem d_sliceC {t : TypeId} {lo hi : Option Operand} {b off l c p q z o' l' c' : Nat} (ho : o.op = .slice t x lo hi none) (ht : elemSz P t = some z)
    (hx : ev L x = some (.slice (some ⟨b, off, none⟩) l c)) (hlo : (lo = none ∧ p = 0) ∨ ∃ y k i, lo = some y ∧ ev L y = some (.int k i) ∧ i = (p : Int)) (hhi : (hi = none ∧ q = l) ∨ ∃ y k i, hi = some y ∧ ev L y = some (.int k i) ∧ i = (q : Int)) (hpq : p ≤ q) (hqc : q ≤ c)
    (h1 : off + p * z = o') (h2 : q - p = l') (h3 : c - p = c') (h4 : p < c ∨ p * z = 0) : DoesL P C n ds L o (.slice (some ⟨b, o', none⟩) l' c') := by
  have := d_slice (P := P) (C := C) (n := n) (ds := ds) (L := L) ho ht hx hlo hhi hpq hqc
  rw [h2, h3] at this
  have e : (if c = p then (some ⟨b, off, none⟩ : Option Addr) else (some ⟨b, off, none⟩ : Option Addr).map (·.add (p * z))) = some ⟨b, o', none⟩ := by
    subst h1
    split
    · rename_i h; rcases h4 with h4 | h4
      · omega
      · simp [h4]
    · simp only [Option.map_some, Option.some.injEq]
      unfold Addr.add; split
      · rename_i h0; simp [h0]
      · rfl
  rwa [e] at this
theorem d_sliceA {t : TypeId} {lo hi : Option Operand} {b off n' p q z o' l' c' : Nat} (ho : o.op = .slice t x lo hi none) (ht : arrPtr P t = some (n', z))
    (hx : ev L x = some (.pointer (some ⟨b, off, none⟩))) (hlo : (lo = none ∧ p = 0) ∨ ∃ y k i, lo = some y ∧ ev L y = some (.int k i) ∧ i = (p : Int)) (hhi : (hi = none ∧ q = n') ∨ ∃ y k i, hi = some y ∧ ev L y = some (.int k i) ∧ i = (q : Int)) (hpq : p ≤ q) (hqc : q ≤ n')
    (h1 : off + p * z = o') (h2 : q - p = l') (h3 : n' - p = c') (h4 : p < n' ∨ p * z = 0) : DoesL P C n ds L o (.slice (some ⟨b, o', none⟩) l' c') := fun a hF w _ => by
  obtain ⟨ar, e, i0, ht0, ht1, hi0, hz⟩ := arrPtr_ok ht
  have g1 : (0 : Int) ≤ (p : Int) ∧ (p : Int) ≤ (q : Int) := by omega
  have g2 : (0 : Int) ≤ (q : Int) ∧ (q : Int) ≤ (n' : Int) := by omega
  have key : ((if n' = p then (⟨b, off, none⟩ : Addr) else (⟨b, off, none⟩ : Addr).add (p * z))) = ⟨b, o', none⟩ := by
    subst h1
    split
    · rename_i h; rcases h4 with h4 | h4
      · omega
      · simp [h4]
    · unfold Addr.add; split
      · rename_i h0; simp [h0]
      · rfl
  rcases hlo with ⟨rfl, rfl⟩ | ⟨y, k, i, rfl, hy, rfl⟩ <;> rcases hhi with ⟨rfl, rfl⟩ | ⟨y', k', i', rfl, hy', rfl⟩
  · simp only [execOp, ho, Option.map_some, Option.map_none, hF.ev hx]; simp [Instr.sliceAt, Instr.slice, run_underlying ht0, run_underlying ht1, Instr.sureAddr, Instr.sliceBounds, sizeOf, typeInfo, hi0, hz, hpq, hqc, go_sem, key, h2, h3] <;> (try simp_all) <;> (try omega)
  · simp only [execOp, ho, Option.map_some, Option.map_none, hF.ev hx, hF.ev hy']; simp [Instr.sliceAt, Instr.slice, run_underlying ht0, run_underlying ht1, Instr.sureAddr, Instr.sliceBounds, Instr.sliceBound, asIntOf, g2, sizeOf, typeInfo, hi0, hz, hpq, hqc, go_sem, key, h2, h3] <;> (try simp_all) <;> (try omega)
  · simp only [execOp, ho, Option.map_some, Option.map_none, hF.ev hx, hF.ev hy]; simp [Instr.sliceAt, Instr.slice, run_underlying ht0, run_underlying ht1, Instr.sureAddr, Instr.sliceBounds, Instr.sliceBound, asIntOf, g1, sizeOf, typeInfo, hi0, hz, hpq, hqc, go_sem, key, h2, h3] <;> (try simp_all) <;> (try omega)
  · simp only [execOp, ho, Option.map_some, Option.map_none, hF.ev hx, hF.ev hy, hF.ev hy']; simp [Instr.sliceAt, Instr.slice, run_underlying ht0, run_underlying ht1, Instr.sureAddr, Instr.sliceBounds, Instr.sliceBound, asIntOf, g1, g2, sizeOf, typeInfo, hi0, hz, hpq, hqc, go_sem, key, h2, h3] <;> (try simp_all) <;> (try omega)
/-- of an array that lies in memory -/
theorem d_sliceR {t : TypeId} {lo hi : Option Operand} {b off n' p q z o' l' c' : Nat} (ho : o.op = .slice t x lo hi none) (ht : arrSz P t = some (n', z))
    (hx : ev L x = some (.pointer (some ⟨b, off, none⟩))) (hlo : (lo = none ∧ p = 0) ∨ ∃ y k i, lo = some y ∧ ev L y = some (.int k i) ∧ i = (p : Int)) (hhi : (hi = none ∧ q = n') ∨ ∃ y k i, hi = some y ∧ ev L y = some (.int k i) ∧ i = (q : Int)) (hpq : p ≤ q) (hqc : q ≤ n')
    (h1 : off + p * z = o') (h2 : q - p = l') (h3 : n' - p = c') (h4 : p < n' ∨ p * z = 0) : DoesL P C n ds L o (.slice (some ⟨b, o', none⟩) l' c') := fun a hF w _ => by
  obtain ⟨e, i0, ht1, hi0, hz⟩ := arrSz_ok ht
  have g1 : (0 : Int) ≤ (p : Int) ∧ (p : Int) ≤ (q : Int) := by omega
  have g2 : (0 : Int) ≤ (q : Int) ∧ (q : Int) ≤ (n' : Int) := by omega
  have key : ((if n' = p then (⟨b, off, none⟩ : Addr) else (⟨b, off, none⟩ : Addr).add (p * z))) = ⟨b, o', none⟩ := by
    subst h1
    split
    · rename_i h; rcases h4 with h4 | h4
      · omega
      · simp [h4]
    · unfold Addr.add; split
      · rename_i h0; simp [h0]
      · rfl
  rcases hlo with ⟨rfl, rfl⟩ | ⟨y, k, i, rfl, hy, rfl⟩ <;> rcases hhi with ⟨rfl, rfl⟩ | ⟨y', k', i', rfl, hy', rfl⟩
  · simp only [execOp, ho, Option.map_some, Option.map_none, hF.ev hx]; simp [Instr.sliceAt, Instr.slice, run_underlying ht1, Instr.sureAddr, Instr.sliceBounds, sizeOf, typeInfo, hi0, hz, hpq, hqc, go_sem, key, h2, h3] <;> (try simp_all) <;> (try omega)
  · simp only [execOp, ho, Option.map_some, Option.map_none, hF.ev hx, hF.ev hy']; simp [Instr.sliceAt, Instr.slice, run_underlying ht1, Instr.sureAddr, Instr.sliceBounds, Instr.sliceBound, asIntOf, g2, sizeOf, typeInfo, hi0, hz, hpq, hqc, go_sem, key, h2, h3] <;> (try simp_all) <;> (try omega)
  · simp only [execOp, ho, Option.map_some, Option.map_none, hF.ev hx, hF.ev hy]; simp [Instr.sliceAt, Instr.slice, run_underlying ht1, Instr.sureAddr, Instr.sliceBounds, Instr.sliceBound, asIntOf, g1, sizeOf, typeInfo, hi0, hz, hpq, hqc, go_sem, key, h2, h3] <;> (try simp_all) <;> (try omega)
  · simp only [execOp, ho, Option.map_some, Option.map_none, hF.ev hx, hF.ev hy, hF.ev hy']; simp [Instr.sliceAt, Instr.slice, run_underlying ht1, Instr.sureAddr, Instr.sliceBounds, Instr.sliceBound, asIntOf, g1, g2, sizeOf, typeInfo, hi0, hz, hpq, hqc, go_sem, key, h2, h3] <;> (try simp_all) <;> (try omega)

/-! ### memory in parts -/
theorem n_alloc (H : Sep z Γ w) {e : TypeId} {zs : List Value} (ho : o.op = .alloc e) (hz : zeroCells P e = some zs.toArray) : GoesL P n ds L o w (fun v w' => ∃ b, v = .pointer (some ⟨b, 0, none⟩) ∧ Sep z (blk b zs e :: Γ) w') := fun a hF => by
  obtain ⟨v, w', hr, b, rfl, hs, _, hB, hx⟩ := g_alloc (w := w) ho hz a hF
  exact ⟨_, w', hr, b, rfl, H.new hx (by omega) hB⟩
theorem n_box (H : Sep z Γ w) {e : TypeId} {cs : List Value} (ho : o.op = .box e x) (hx : ev L x = some v) (hc : v.cells = cs.toArray) : GoesL P n ds L o w (fun v w' => ∃ b, v = .pointer (some ⟨b, 0, none⟩) ∧ Sep z (blk b cs e :: Γ) w') := fun a hF => by
  obtain ⟨v, w', hr, b, rfl, hs, _, hB, hx⟩ := g_box (P := P) (w := w) ho hx hc a hF
  exact ⟨_, w', hr, b, rfl, H.new hx (by omega) hB⟩
theorem n_store (i : Nat) (H : Sep z Γ w) {t ty : TypeId} {b p : Nat} {cs vs : List Value} (hi : Γ[i]? = some (blk b cs ty)) (ho : o.op = .store t x y) (hx : ev L x = some (.pointer (some ⟨b, p, none⟩))) (hy : ev L y = some v) (hv : v.cells = vs.toArray) (h1 : ∀ u ∈ vs, u.oneCell' = true)
    (hs : (P.info? t).map (·.size) = some vs.length) (hp : p + vs.length ≤ cs.length) {out : List Value} (hout : cs.take p ++ vs ++ cs.drop (p + vs.length) = out) :
    PutsL P n ds L o w (fun w' => Sep z (Γ.set i (blk b out ty)) w') := fun a hF => by
  obtain ⟨w', hr, hB, hx, _⟩ := p_store ho hx hy hv h1 hs (H.blk i hi) hp hout a hF
  refine ⟨w', hr, H.write i hi hx.os hx.tape hx.output hB (fun k hk => ?_)⟩
  rcases Nat.lt_or_ge k w.heap.size with q | q
  · exact hx.block k q hk
  · rw [Array.getElem?_eq_none q, Array.getElem?_eq_none (by omega)]
end

/-! ### Calls by their contracts -/
section calls
variable {P : Program} {ops : List Oper} {Q : Exit → Act → World → Prop} {a : Act} {w z : World} {rest : List Oper} {o : Oper} {n d : Nat} {ds : List Deferred} {L : List (Nat × Value)} {v : Value} {Γ pre R' : List Asn} {post : Value → List Asn → Prop} {f : FuncId} {args : List Operand} {vs : List Value} {tys : Array TypeId}
theorem Cn.or {A B : Asn} (h1 : Cn P f vs (A :: pre) post) (h2 : Cn P f vs (B :: pre) post) : Cn P f vs ((fun h => A h ∨ B h) :: pre) post := fun z R w H => by
  obtain ⟨b, H⟩ := H.ex 0 (σ := Bool) (B := fun b => bif b then A else B) rfl (fun h q => by rcases q with q | q; exact ⟨true, q⟩; exact ⟨false, q⟩)
  cases b with
  | true => exact h1 z R w H
  | false => exact h2 z R w H
theorem Cn.at (hc : Cn P f vs pre post) (H : Sep z Γ w) (k : Nat) (is : List Nat) (hok : okIs k is = true) (e : picks Γ is ++ Γ.drop k = pre ++ R') : Calls P f vs.toArray w (Ret fun v w' => ∃ Γ', post v Γ' ∧ Sep z (Γ' ++ R') w') :=
  hc z R' w (H.perm k is hok e)
theorem s_callC (hw : wantL ops L o.guard = true) (hd : o.dst = some d) (hlt : Nat.blt d n = true) (ho : o.op = .call { callee := .value (.func f), args := args.toArray, argTypes := tys }) (hargs : evs L args = some vs) (hr : ∀ w, (callFunc f vs.toArray).run P w = .ok (.enter f vs.toArray) w)
    (hc : Cn P f vs pre post) (H : Sep z Γ w) (k : Nat) (is : List Nat) (hok : okIs k is = true) (e : picks Γ is ++ Γ.drop k = pre ++ R')
    (K : ∀ v w' Γ', post v Γ' → Sep z (Γ' ++ R') w' → ∀ a', Fr n ds ((d, v) :: L) a' → wpList P ops.toArray Q rest a' w') : ∀ a, Fr n ds L a → wpList P ops.toArray Q (o :: rest) a w :=
  s_call hw hd hlt ho hargs hr (hc.at H k is hok e) fun v w' ⟨Γ', q, H'⟩ => K v w' Γ' q H'
theorem s_callC0 (hw : wantL ops L o.guard = true) (hd : o.dst = none) (ho : o.op = .call { callee := .value (.func f), args := args.toArray, argTypes := tys }) (hargs : evs L args = some vs) (hr : ∀ w, (callFunc f vs.toArray).run P w = .ok (.enter f vs.toArray) w)
    (hc : Cn P f vs pre post) (H : Sep z Γ w) (k : Nat) (is : List Nat) (hok : okIs k is = true) (e : picks Γ is ++ Γ.drop k = pre ++ R')
    (K : ∀ v w' Γ', post v Γ' → Sep z (Γ' ++ R') w' → ∀ a, Fr n ds L a → wpList P ops.toArray Q rest a w') : ∀ a, Fr n ds L a → wpList P ops.toArray Q (o :: rest) a w :=
  s_call0 hw hd ho hargs hr (hc.at H k is hok e) fun v w' ⟨Γ', q, H'⟩ => K v w' Γ' q H'
theorem cq (hc : Cn P f vs pre post) (hq : ∀ u Γ', post u Γ' → u = v ∧ Γ' = pre) (k : Nat) (is is' : List Nat) (hok : okIs k is = true) (e : picks Γ is ++ Γ.drop k = pre ++ R') (hok' : okIs k is' = true) (e' : picks (pre ++ R') is' ++ (pre ++ R').drop k = Γ) :
    ∀ w, Sep z Γ w → Calls P f vs.toArray w (Ret fun u w' => u = v ∧ Sep z Γ w') := fun w H =>
  Ret.mono (hc.at H k is hok e) fun u w' ⟨Γ', q, H'⟩ => by
    obtain ⟨rfl, rfl⟩ := hq u Γ' q
    exact ⟨rfl, H'.perm k is' hok' e'⟩
theorem s_go0 {Rr : Value → World → Prop} (hw : wantL ops L o.guard = true) (hd : o.dst = none) (h : GoesL P n ds L o w Rr) (K : ∀ v w', Rr v w' → ∀ a, Fr n ds L a → wpList P ops.toArray Q rest a w') : ∀ a, Fr n ds L a → wpList P ops.toArray Q (o :: rest) a w := by
  intro a hF
  obtain ⟨v, w', hr, hR⟩ := h a hF
  unfold wpList
  rw [if_pos (wantL_ok hF hw)]
  left
  unfold Oper.wp
  rw [hr, Oper.upon_value, hd]
  exact K v w' hR a hF
end calls
section callsH
variable {P : Program} {ops : List Oper} {N R : Act → World → Prop} {X : Nat → Act → World → Prop} {a : Act} {w z : World} {n d i : Nat} {ds : List Deferred} {L : List (Nat × Value)} {v : Value} {o : Oper} {Γ pre R' : List Asn} {post : Value → List Asn → Prop} {f : FuncId} {args : List Operand} {vs : List Value} {tys : Array TypeId} {K : Act → World → Prop}
theorem o_callC (hi : ops[i]? = some o) (hw : wantL ops L o.guard = true) (hd : o.dst = some d) (hlt : Nat.blt d n = true) (ho : o.op = .call { callee := .value (.func f), args := args.toArray, argTypes := tys }) (hargs : evs L args = some vs) (hr : ∀ w, (callFunc f vs.toArray).run P w = .ok (.enter f vs.toArray) w)
    (hc : Cn P f vs pre post) (H : Sep z Γ w) (k : Nat) (is : List Nat) (hok : okIs k is = true) (e : picks Γ is ++ Γ.drop k = pre ++ R')
    (hK : ∀ v w' Γ', post v Γ' → Sep z (Γ' ++ R') w' → ∀ a', Fr n ds ((d, v) :: L) a' → K a' w') : ∀ a, Fr n ds L a → wpOp P ops.toArray (Qp N X R) i K a w :=
  o_call hi hw hd hlt ho hargs hr (hc.at H k is hok e) fun v w' ⟨Γ', q, H'⟩ => hK v w' Γ' q H'
theorem o_do (hi : ops[i]? = some o) (hw : wantL ops L o.guard = true) (hd : o.dst = some d) (hlt : Nat.blt d n = true) (hdo : DoesL P (· = w) n ds L o v) (hK : ∀ a', Fr n ds ((d, v) :: L) a' → K a' w) : ∀ a, Fr n ds L a → wpOp P ops.toArray (Qp N X R) i K a w :=
  o_go hi hw hd hlt (Rr := fun u w' => u = v ∧ w' = w) (fun a hF => ⟨v, w, hdo a hF w rfl, rfl, rfl⟩) fun _ _ ⟨e1, e2⟩ => by subst e1; subst e2; exact hK
theorem o_go0 {Rr : Value → World → Prop} (hi : ops[i]? = some o) (hw : wantL ops L o.guard = true) (hd : o.dst = none) (h : GoesL P n ds L o w Rr) (hK : ∀ v w', Rr v w' → ∀ a, Fr n ds L a → K a w') : ∀ a, Fr n ds L a → wpOp P ops.toArray (Qp N X R) i K a w := by
  intro a hF
  obtain ⟨v, w', hr, hR⟩ := h a hF
  unfold wpOp
  rw [List.getElem?_toArray, hi]
  simp only
  rw [if_pos (wantL_ok hF hw)]
  left
  unfold Oper.wp
  rw [hr, Oper.upon_value, hd]
  exact hK v w' hR a hF
end callsH
end Go.Proofs.YtanejicgmgpjcaaGreatDoor
