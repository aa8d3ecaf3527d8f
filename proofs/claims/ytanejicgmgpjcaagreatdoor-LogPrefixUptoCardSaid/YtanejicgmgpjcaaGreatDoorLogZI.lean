/-
  What a log does under failing writes, for the law of the crash. No condition.
-/
import Derived.Test.YtanejicgmgpjcaaGreatDoorLogZH
set_option maxRecDepth 100000
namespace Go.Proofs.YtanejicgmgpjcaaGreatDoor
open Go.RowKit

open Go.RowKit
/-- the law's superblocks -/
def sP (e h q : Int) : Sup := ⟨1, e, 16, 18, 64, h, q⟩
theorem sP_f (e h q : Int) : (sP e h q).gen = 1 ∧ (sP e h q).epoch = e ∧ (sP e h q).pages = 16 ∧ (sP e h q).start = 18 ∧ (sP e h q).len = 64 ∧ (sP e h q).head = h ∧ (sP e h q).seq = q := ⟨rfl, rfl, rfl, rfl, rfl, rfl, rfl⟩
theorem sP_ok {e h q : Int} (he : 0 ≤ e ∧ e ≤ 2000000000) (hh : 0 ≤ h ∧ h < 64) (hq : 0 ≤ q ∧ q ≤ 2000000000) : (sP e h q).Ok 100 := by
  have hs := sP_f e h q
  refine ⟨fun x hx => ?_, by omega, by omega, by omega, by omega, by omega, by omega, by omega⟩
  simp only [Sup.list, List.mem_cons, List.not_mem_nil, or_false] at hx
  omega
theorem sP_s {e h q : Int} (he : 0 ≤ e ∧ e ≤ 2000000000) (hh : 0 ≤ h ∧ h < 64) (hq : 0 ≤ q) : SOk (sP e h q) := by
  have hs := sP_f e h q
  exact ⟨by omega, by omega, by omega, by omega⟩
/-- telling the disk to fail, in whatever way, leaves what it holds -/
theorem failK_c (pd : Nat) (D : Dsk) (k x : Int) (hk : 1 ≤ k ∧ k ≤ 3) : Cn Tryz.prog 12 [.pointer (some ⟨pd, 0, none⟩), .int .i64 k, .int .i64 x] [diskA pd D] (fun v Γ => ∃ (c : Int) (Dk : Dsk), (Dk.n = D.n ∧ Dk.dur = D.dur ∧ Dk.ver = D.ver) ∧ v = .int .i64 c ∧ Γ = [diskA pd Dk]) := by
  rcases (show k = 1 ∨ k = 2 ∨ k = 3 by omega) with rfl | rfl | rfl
  · refine (fail1_c pd D x).mono ?_
    rintro v Γ (⟨_, rfl, rfl⟩ | ⟨_, rfl, rfl⟩)
    · exact ⟨_, D, ⟨rfl, rfl, rfl⟩, rfl, rfl⟩
    · exact ⟨_, { D with f1 := x }, ⟨rfl, rfl, rfl⟩, rfl, rfl⟩
  · refine (fail2_c pd D x).mono ?_
    rintro v Γ (⟨_, rfl, rfl⟩ | ⟨_, rfl, rfl⟩)
    · exact ⟨_, D, ⟨rfl, rfl, rfl⟩, rfl, rfl⟩
    · exact ⟨_, { D with f2 := x }, ⟨rfl, rfl, rfl⟩, rfl, rfl⟩
  · refine (fail3_c pd D x).mono ?_
    rintro v Γ (⟨_, rfl, rfl⟩ | ⟨_, rfl, rfl⟩)
    · exact ⟨_, D, ⟨rfl, rfl, rfl⟩, rfl, rfl⟩
    · exact ⟨_, { D with f3 := x }, ⟨rfl, rfl, rfl⟩, rfl, rfl⟩
theorem cutK_c (pd : Nat) (D : Dsk) (x : Int) : Cn Tryz.prog 17 [.pointer (some ⟨pd, 0, none⟩), .int .i64 x] [diskA pd D] (fun v Γ => ∃ (c : Int) (Dk : Dsk), (Dk.n = D.n ∧ Dk.dur = D.dur ∧ Dk.ver = D.ver) ∧ v = .int .i64 c ∧ Γ = [diskA pd Dk]) := by
  refine (cut_c pd D x).mono ?_
  rintro v Γ (⟨_, rfl, rfl⟩ | ⟨_, rfl, rfl⟩)
  · exact ⟨_, D, ⟨rfl, rfl, rfl⟩, rfl, rfl⟩
  · exact ⟨_, { D with cut := true, left := x }, ⟨rfl, rfl, rfl⟩, rfl, rfl⟩
/-- the first ones of a slice -/
theorem d_sliceP {P : Program} {C : World → Prop} {n : Nat} {ds : List Deferred} {L : List (Nat × Value)} {o : Oper} {x y : Operand} {t : TypeId} {ao : Option Addr} {l c k z : Nat} (ho : o.op = .slice t x none (some y) none) (ht : elemSz P t = some z) (hx : ev L x = some (.slice ao l c)) (hy : ev L y = some (.int .i64 (k : Int))) (hk : k ≤ c) : DoesL P C n ds L o (.slice ao k c) := by
  have := d_slice (P := P) (C := C) (n := n) (ds := ds) (L := L) (p := 0) (q := k) ho ht hx (.inl ⟨rfl, rfl⟩) (.inr ⟨y, .i64, (k : Int), rfl, hy, rfl⟩) (Nat.zero_le _) hk
  have e : (if c = 0 then ao else ao.map (·.add (0 * z))) = ao := by
    split
    · rfl
    · cases ao with
      | none => rfl
      | some a => simp [Addr.add]
  rw [e, Nat.sub_zero, Nat.sub_zero] at this
  exact this
theorem rdH.upto {sz : Nat} {ao : Option Addr} {l c k : Nat} {xs : List Value} {h : Hp} (r : rdH sz (.slice ao l c) l xs h) (hk : k ≤ l) : rdH sz (.slice ao k c) k (xs.take (k * sz)) h := by
  obtain ⟨ao', c', e, h1, h2, h3, h4⟩ := r
  cases e
  refine ⟨ao, c, rfl, by omega, h2, ?_, fun j u hj => ?_⟩
  · rw [List.length_take, h3]; exact Nat.min_eq_left (Nat.mul_le_mul_right _ hk)
  · rw [List.getElem?_take] at hj
    split at hj
    · exact h4 j u hj
    · cases hj
theorem rcC_take (es : List RcE) : ∀ k, (rcC es).take (k * 2) = rcC (es.take k) := by
  induction es with
  | nil => intro k; simp [rcC]
  | cons e es ih =>
    intro k
    cases k with
    | zero => simp [rcC]
    | succ k =>
      have hl : (RcE.cells e).length = 2 := rfl
      have h1 := ih k
      simp only [rcC, List.flatMap_cons, List.take_succ_cons] at h1 ⊢
      rw [List.take_append, hl, List.take_of_length_le (by omega), show (k + 1) * 2 - 2 = k * 2 from by omega, h1]
theorem recsH.upto {ao : Option Addr} {c k : Nat} {es : List RcE} {hq : Hp} (hr : rdH 2 (.slice ao es.length c) es.length (rcC es) hq) (ho : rcesOk es hq) (hk : k ≤ es.length) : recsH (.slice ao k c) ((es.map Prod.fst).take k) hq := by
  refine ⟨es.take k, by rw [List.map_take], ?_, fun e he => ho e (List.mem_of_mem_take he)⟩
  rw [List.length_take, List.length_map, Nat.min_eq_left hk, ← rcC_take]
  exact hr.upto hk
/-- the law's argument, with the sectors that crashes are to keep -/
def opsP (es : List (OpE × List Int)) (h : Hp) : Prop := ∀ x ∈ es, rdH 1 x.1.2.1 x.1.1.ns.length (x.1.1.ns.map (Value.int .i64)) h ∧ rdH 1 x.1.2.2 x.2.length (x.2.map (Value.int .i64)) h ∧ x.1.1.ns.length ≤ 1099511627776
theorem appendP_c (pl pd pt : Nat) (sL s : Sup) (nu : Bool) (v : Value) (ims : List Img) (A : Asn) (hA : ∀ h, A h → imgsH v ims h) (D : Dsk) {rs : List Rc} {ptl : List (List UInt8)} {a q u : Int} {b : Bool} {sure : Nat} (hP : PInv D s rs ptl a q u b sure) (hs : SOk s) (h1 : sL.start = s.start) (h2 : sL.len = s.len) (h3 : sL.epoch = s.epoch) (hok : sL.Ok (D.n : Int)) (hnu : nu = decide (sL.epoch < 4294967296)) (hq : 0 ≤ q ∧ q ≤ 2000000000) (hver : ∀ i, (D.ver i).length ≤ 1000000000000) :
    Cn Tryz.prog 9 [.pointer (some ⟨pl, 0, none⟩), v] [blk pl [.pointer (some ⟨pd, 0, none⟩), .pointer (some ⟨pt, 0, none⟩), .int .i64 sL.gen, .int .i64 sL.epoch, .int .i64 sL.pages, .int .i64 sL.start, .int .i64 sL.len, .int .i64 sL.head, .int .i64 sL.seq, .int .i64 a, .int .i64 q, .int .i64 u, .bool b, .bool nu] 77, tblA pt, diskA pd D, A] (fun v Γ => (∃ (Da : Dsk) (a2 q2 u2 : Int), PInv Da s (rs ++ [⟨q, ims⟩]) [] a2 q2 u2 b sure ∧ (Da.n = D.n ∧ ∀ i, (Da.ver i).length ≤ (D.ver i).length + 2) ∧ q2 = q + 1 ∧ v = .int .i64 0 ∧ Γ = [blk pl [.pointer (some ⟨pd, 0, none⟩), .pointer (some ⟨pt, 0, none⟩), .int .i64 sL.gen, .int .i64 sL.epoch, .int .i64 sL.pages, .int .i64 sL.start, .int .i64 sL.len, .int .i64 sL.head, .int .i64 sL.seq, .int .i64 a2, .int .i64 q2, .int .i64 u2, .bool b, .bool nu] 77, tblA pt, diskA pd Da, A]) ∨
      (∃ (c : Int) (Df : Dsk) (ptl2 : List (List UInt8)) (a2 q2 u2 : Int) (b2 : Bool), c ≠ 0 ∧ PInv Df s rs ptl2 a2 q2 u2 b2 sure ∧ (Df.n = D.n ∧ ∀ i, (Df.ver i).length ≤ (D.ver i).length + 2) ∧ (q ≤ q2 ∧ q2 ≤ q + 1) ∧ v = .int .i64 c ∧ Γ = [blk pl [.pointer (some ⟨pd, 0, none⟩), .pointer (some ⟨pt, 0, none⟩), .int .i64 sL.gen, .int .i64 sL.epoch, .int .i64 sL.pages, .int .i64 sL.start, .int .i64 sL.len, .int .i64 sL.head, .int .i64 sL.seq, .int .i64 a2, .int .i64 q2, .int .i64 u2, .bool b2, .bool nu] 77, tblA pt, diskA pd Df, A])) := by
  have hat := hP.at_ok hs
  have hsd := hs.head
  have hu0 := hP.fu
  have hul := hP.ul
  refine Cn.mono (append_c pl pd pt sL a q u b nu v ims A hA D hok hnu (by omega) (by omega) (by omega) hver) ?_
  rintro v Γ (⟨g1, rfl, rfl⟩ | ⟨g1, g2, rfl, rfl⟩ | ⟨g1, g2, g3, rfl, rfl⟩ | ⟨g1, g2, g3, k, hk, g4⟩)
  · exact .inr ⟨16, D, ptl, a, q, u, b, by decide, hP, ⟨rfl, fun i => by omega⟩, by omega, rfl, rfl⟩
  · exact .inr ⟨1, D, ptl, a, q, u, b, by decide, hP, ⟨rfl, fun i => by omega⟩, by omega, rfl, rfl⟩
  · exact .inr ⟨15, D, ptl, a, q, u, b, by decide, hP, ⟨rfl, fun i => by omega⟩, by omega, rfl, rfl⟩
  · have g3' := g3.1
    cases b with
    | true => rw [if_pos rfl] at g3'; omega
    | false =>
      rw [if_neg (by decide)] at g3'
      have hr : 1 + (ims.length : Int) ≤ s.len - u := by omega
      have hk' : (k : Int) = min (1 + (ims.length : Int)) (s.len - a) := by rw [← h2]; exact hk
      have hpl := recB_len s.epoch q ims
      rw [h1, h3] at g4
      have l1 := fun i => Dsk.wr_len D (s.start + a).toNat ((recB s.epoch q ims).take k) i
      have l2 := fun i => Dsk.wr_len (D.wr (s.start + a).toNat ((recB s.epoch q ims).take k)) s.start.toNat ((recB s.epoch q ims).drop k) i
      have hap := hP.app hs g1 g2.1 hr hk'
      rcases g4 with ⟨_, g5, rfl, rfl⟩ | ⟨_, g5, _, rfl, rfl⟩ | ⟨g5, rfl, rfl⟩ | ⟨_, g6, g5, rfl, rfl⟩
      · unfold appD at hap
        rw [if_neg (by omega), ← h2] at hap
        exact .inl ⟨_, _, _, _, hap, ⟨Dsk.wr_n _ _ _, fun i => by have := l1 i; omega⟩, rfl, rfl, by rw [h1, h3]⟩
      · unfold appD at hap
        rw [if_pos (by omega), ← h2] at hap
        exact .inl ⟨_, _, _, _, hap, ⟨by rw [Dsk.wr_n, Dsk.wr_n], fun i => by have := l1 i; have := l2 i; omega⟩, rfl, rfl, by rw [h1, h3]⟩
      · exact .inr ⟨11, _, _, _, _, _, _, by decide, hP.fail0, ⟨rfl, fun i => by show (D.ver i).length ≤ _; omega⟩, by omega, rfl, by rw [h1, h3]⟩
      · exact .inr ⟨11, _, _, _, _, _, _, by decide, hP.fail1 hs g1 g2.1 hr hk' g6, ⟨Dsk.wr_n _ _ _, fun i => by have := l1 i; show ((D.wr (s.start + a).toNat ((recB s.epoch q ims).take k)).ver i).length ≤ _; omega⟩, by omega, rfl, by rw [h1, h3]⟩
end Go.Proofs.YtanejicgmgpjcaaGreatDoor
