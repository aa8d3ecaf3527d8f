/-
  Sums of bytes, plainly, and the table that they are made with. No condition.
-/
import Derived.Test.YtanejicgmgpjcaaGreatDoorCoreV
set_option maxRecDepth 100000
namespace Go.Proofs.YtanejicgmgpjcaaGreatDoor

def crcStep (c : UInt32) : UInt32 := (c >>> 1) ^^^ ((c &&& 1) * 2197175160)
def crcIt : Nat → UInt32 → UInt32
  | 0, c => c
  | k + 1, c => crcStep (crcIt k c)
def crcTab : List UInt32 := (List.range 256).map fun i : Nat => crcIt 8 (w32 (i : Int))
theorem crcTab_len : crcTab.length = 256 := by simp [crcTab]
theorem crcTab_get {i : Nat} (h : i < 256) : crcTab[i]? = some (crcIt 8 (w32 (i : Int))) := by simp [crcTab, h]
/-- one byte more -/
def crcByte (c : UInt32) (b : UInt8) : UInt32 := (c >>> 8) ^^^ (crcTab[(c.toUInt8 ^^^ b).toNat]?.getD 0)
def crcMore (c : UInt32) (bs : List UInt8) : UInt32 := 4294967295 ^^^ (bs.foldl crcByte (4294967295 ^^^ c))
def crcSum (bs : List UInt8) : UInt32 := crcMore 0 bs
theorem crcMore_append (c : UInt32) (a b : List UInt8) : crcMore (crcMore c a) b = crcMore c (a ++ b) := by
  unfold crcMore
  rw [← UInt32.xor_assoc, UInt32.xor_self, UInt32.zero_xor, List.foldl_append]
def z32 : Value := .int .u32 0
def tabC (x0 x1 x2 : Value) (i : Nat) : List Value := [x0, x1, x2] ++ ((crcTab.take i).map u32 ++ List.replicate (256 - i) z32)
theorem tabC_len (x0 x1 x2 : Value) {i : Nat} (h : i ≤ 256) : (tabC x0 x1 x2 i).length = 259 := by simp [tabC, crcTab_len]; omega
theorem tabC_step (x0 x1 x2 : Value) {i : Nat} (h : i < 256) : (tabC x0 x1 x2 i).take (3 + i) ++ [u32 (crcIt 8 (w32 (i : Int)))] ++ (tabC x0 x1 x2 i).drop (3 + i + 1) = tabC x0 x1 x2 (i + 1) := by
  have hA : ([x0, x1, x2] ++ (crcTab.take i).map u32).length = 3 + i := by simp [crcTab_len]; omega
  have e1 : tabC x0 x1 x2 i = ([x0, x1, x2] ++ (crcTab.take i).map u32) ++ List.replicate (256 - i) z32 := by simp [tabC]
  rw [e1, List.take_append_of_le_length (by omega), List.take_of_length_le (by omega), List.drop_append, List.drop_of_length_le (by omega), List.nil_append, hA]
  rw [show 3 + i + 1 - (3 + i) = 1 from by omega, List.drop_replicate]
  unfold tabC
  rw [List.take_add_one, crcTab_get h]
  simp
  omega
/-- the table, not yet made, or made -/
def tblN (pt : Nat) : Asn := blk pt (tabC (.int .u32 0) (.int .i32 0) (.int .u32 0) 0) 69
def tblM (pt : Nat) : Asn := blk pt (tabC (.int .u32 1) (.int .i32 0) (.int .u32 0) 256) 69
def tblA (pt : Nat) : Asn := fun h => tblN pt h ∨ tblM pt h
theorem tabC_word (x0 x1 x2 : Value) (b : UInt8) : (tabC x0 x1 x2 256)[3 + b.toNat]? = some (u32 (crcTab[b.toNat]?.getD 0)) := by
  have hb := b.toNat_lt
  have hl := crcTab_len
  simp only [tabC]
  rw [List.getElem?_append_right (by simp)]
  simp only [List.length_cons, List.length_nil]
  rw [show 3 + b.toNat - (0 + 1 + 1 + 1) = b.toNat from by omega]
  rw [List.getElem?_append_left (by simp [hl]; omega), List.getElem?_map, List.take_of_length_le (by omega), crcTab_get (by omega)]
  rfl
theorem tabC_head (x0 x1 x2 : Value) (i : Nat) : (tabC x0 x1 x2 i)[0]? = some x0 ∧ (tabC x0 x1 x2 i)[1]? = some x1 ∧ (tabC x0 x1 x2 i)[2]? = some x2 := ⟨rfl, rfl, rfl⟩
theorem tabC_set0 (x0 x1 x2 y : Value) (i : Nat) : (tabC x0 x1 x2 i).set 0 y = tabC y x1 x2 i := rfl
theorem tabC_set1 (x0 x1 x2 y : Value) (i : Nat) : (tabC x0 x1 x2 i).set 1 y = tabC x0 y x2 i := rfl
end Go.Proofs.YtanejicgmgpjcaaGreatDoor
