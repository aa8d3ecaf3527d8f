/-
  Steps to: A crash in the middle of a move leaves the log where it was or where it was asked to, and all that was synced. No condition.
-/
import Derived.Test.YtbegkbjigbkljaaGreatDoorPart1
import Derived.Test.YtbegkbjigbkljaaGreatDoorCards
import Derived.Test.YtbegkbjigbkljaaGreatDoorTie
import Derived.WalkKit
import Derived.WalkSpells
import Derived.Deep.Quiet
import Derived.KernelRfl
import Derived.IntWalk
import Derived.Maps.AppendAt
import Derived.Laws.AppendOwnNone
import Derived.Laws.CopyRow
import Derived.StillTail
import Derived.Deep.RegionHeld
import Derived.Laws.IdiomStrings
import Derived.Laws.BytesArg
import Derived.Laws.OwnMore
import Derived.Lib.Strings
import Derived.ArgAppend
import Derived.RangeFuncLeaves
import Derived.RangeFuncRecord
import Derived.RangeFuncCalls
import Derived.RangeFuncSeq
import Derived.OrdersIn
import Derived.TacticsIn
import Derived.Laws.IdiomRangeMap
import Derived.Defers
import Derived.Laws.LoneSync
import Derived.LoopN
import Derived.Test.YtbegkbjigbkljaaGreatDoorRows
import Derived.Test.YtbegkbjigbkljaaGreatDoorProg
import Derived.Shelf.Sort.Plain
import Derived.Shelf.Slices.In.SortNone
import Derived.DataReads
import Derived.ProofKit
import Derived.OpenShut
import Derived.Lib.SmallJoins
import Derived.Deep.DeepHandedRow
import Derived.Lib.LaidTab
set_option maxRecDepth 100000
set_option linter.unusedSimpArgs false
set_option linter.unusedVariables false
namespace Go.Proofs.YtbegkbjigbkljaaGreatDoor
theorem getI_be {k : Nat} {x : Int} (h0 : 0 ≤ x) (h1 : x < 9223372036854775808) (hk : x < 256 ^ k) : getI (beN k x) = x := by
  obtain ⟨n, rfl⟩ := Int.eq_ofNat_of_zero_le h0
  have hn : beNat (beN k (n : Int)) = n := beN_nat k (by exact_mod_cast hk)
  unfold getI; rw [hn]
  exact IntWalk.i64_in _ (by omega)
theorem seg (a b c : List UInt8) {p k : Nat} (hp : p = a.length) (hk : k = b.length) : ((a ++ b ++ c).drop p).take k = b := by
  subst hp hk
  rw [List.append_assoc, List.drop_left' rfl, List.take_left' rfl]
theorem flat_seg (ns : List Int) : ∀ {j : Nat} {x : Int}, ns[j]? = some x → ((ns.flatMap (beN 4)).drop (4 * j)).take 4 = beN 4 x := by
  induction ns with
  | nil => intro j x h; simp at h
  | cons y ys ih =>
    intro j x h
    cases j with
    | zero =>
      simp at h; subst h
      rw [List.flatMap_cons, Nat.mul_zero, List.drop_zero, List.take_left' (beN_len 4 y)]
    | succ j =>
      rw [List.flatMap_cons, show 4 * (j + 1) = (beN 4 y).length + 4 * j from by rw [beN_len]; omega, List.drop_append]
      rw [List.drop_of_length_le (by omega), List.nil_append, show (beN 4 y).length + 4 * j - (beN 4 y).length = 4 * j from by omega]
      exact ih (by simpa using h)
variable {e sq : Int} {ims : List Img}
theorem hd_parts (e sq : Int) (ims : List Img) : hdL e sq ims = [80, 76, 79, 71] ++ beN 8 e ++ (beN 8 sq ++ beN 4 ((crcSum (imgB e sq ims)).toNat : Int) ++ beN 2 ((ims.map Img.num).length : Int) ++ (ims.map Img.num).flatMap (beN 4)) := by
  simp [hdL]
theorem hd_E (hl : ims.length ≤ 40) (h : 0 ≤ e ∧ e ≤ 1099511627776) : headE (sect (hdL e sq ims)) = e := by
  have hle := hdL_len e sq ims
  unfold headE
  rw [sect_head (by omega) (by omega), hd_parts, seg _ _ _ (by simp) (by simp [beN_len])]
  exact getI_be h.1 (by omega) (by omega)
theorem hd_S (hl : ims.length ≤ 40) (h : 0 ≤ sq ∧ sq ≤ 1099511627776) : headS (sect (hdL e sq ims)) = sq := by
  have hle := hdL_len e sq ims
  unfold headS
  rw [sect_head (by omega) (by omega), show hdL e sq ims = ([80, 76, 79, 71] ++ beN 8 e) ++ beN 8 sq ++ (beN 4 ((crcSum (imgB e sq ims)).toNat : Int) ++ beN 2 ((ims.map Img.num).length : Int) ++ (ims.map Img.num).flatMap (beN 4)) from by simp [hdL], seg _ _ _ (by simp [beN_len]) (by simp [beN_len])]
  exact getI_be h.1 (by omega) (by omega)
theorem hd_U (hl : ims.length ≤ 40) : headU (sect (hdL e sq ims)) = crcSum (imgB e sq ims) := by
  have hle := hdL_len e sq ims
  have hu := (crcSum (imgB e sq ims)).toNat_lt
  unfold headU
  rw [sect_head (by omega) (by omega), show hdL e sq ims = ([80, 76, 79, 71] ++ beN 8 e ++ beN 8 sq) ++ beN 4 ((crcSum (imgB e sq ims)).toNat : Int) ++ (beN 2 ((ims.map Img.num).length : Int) ++ (ims.map Img.num).flatMap (beN 4)) from by simp [hdL], seg _ _ _ (by simp [beN_len]) (by simp [beN_len])]
  rw [getI_be (by omega) (by omega) (by omega)]
  exact w32_of _
theorem hd_C (hl : ims.length ≤ 40) : hCnt (sect (hdL e sq ims)) = ims.length := by
  have hle := hdL_len e sq ims
  unfold hCnt
  rw [sect_head (by omega) (by omega), show hdL e sq ims = ([80, 76, 79, 71] ++ beN 8 e ++ beN 8 sq ++ beN 4 ((crcSum (imgB e sq ims)).toNat : Int)) ++ beN 2 ((ims.map Img.num).length : Int) ++ ((ims.map Img.num).flatMap (beN 4)) from by simp [hdL], seg _ _ _ (by simp [beN_len]) (by simp [beN_len])]
  rw [List.length_map, getI_be (by omega) (by omega) (by omega)]; rfl
theorem hd_N (hl : ims.length ≤ 40) {j : Nat} {m : Img} (hj : ims[j]? = some m) (hm : m.Ok) : hNum (sect (hdL e sq ims)) j = m.num := by
  have hle := hdL_len e sq ims
  have hjl := (List.getElem?_eq_some_iff.1 hj).1
  unfold hNum
  rw [sect_head (by omega) (by omega), show hdL e sq ims = ([80, 76, 79, 71] ++ beN 8 e ++ beN 8 sq ++ beN 4 ((crcSum (imgB e sq ims)).toNat : Int) ++ beN 2 ((ims.map Img.num).length : Int)) ++ ((ims.map Img.num).flatMap (beN 4)) from by simp [hdL]]
  have hpl : ([80, 76, 79, 71] ++ beN 8 e ++ beN 8 sq ++ beN 4 ((crcSum (imgB e sq ims)).toNat : Int) ++ beN 2 ((ims.map Img.num).length : Int)).length = 26 := by simp only [List.length_append, beN_len]; rfl
  rw [List.drop_append, List.drop_of_length_le (by rw [hpl]; omega), List.nil_append, hpl, show 26 + 4 * j - 26 = 4 * j from by omega]
  rw [flat_seg _ (x := m.num) (by simp [hj])]
  have := hm.1
  exact getI_be (by omega) (by omega) (by omega)
theorem hd_P (hl : 1 ≤ ims.length ∧ ims.length ≤ 40) (he : 0 ≤ e ∧ e ≤ 1099511627776) (hs : 0 ≤ sq ∧ sq ≤ 1099511627776) (hok : ∀ m ∈ ims, m.Ok) : headP (sect (hdL e sq ims)) := by
  have hle := hdL_len e sq ims
  have h1 := hd_E (sq := sq) hl.2 he
  have h2 := hd_S (e := e) hl.2 hs
  have h3 := hd_C (e := e) (sq := sq) hl.2
  unfold headE at h1
  unfold headS at h2
  refine ⟨⟨sect_sum (by omega), ?_⟩, by rw [h1]; exact he, by rw [h2]; exact hs, by rw [h3]; exact hl, fun j hj => ?_, ?_⟩
  · have := sect_head (l := hdL e sq ims) (by omega) (p := 0) (k := 4) (by omega)
    rw [List.drop_zero, List.drop_zero] at this
    rw [this, hd_parts, List.append_assoc]; rfl
  · rw [h3] at hj
    have hg := List.getElem?_eq_getElem hj
    rw [hd_N hl.2 hg (hok _ (List.getElem_mem hj))]
    exact (hok _ (List.getElem_mem hj)).1
  · rw [h3, ← hle]
    exact sect_rest (by omega)
theorem im_parts (e sq : Int) (m : Img) : imgL e sq m = beN 1 m.kind ++ beN 2 m.num ++ (beN 4 e ++ beN 5 sq ++ m.body) := by simp [imgL]
theorem im_all {m : Img} (hm : m.Ok) (he : 0 ≤ e ∧ e < 4294967296) (hs : 0 ≤ sq ∧ sq < 1099511627776) : imgP (sect (imgL e sq m)) ∧ imgX (sect (imgL e sq m)) = e ∧ imgY (sect (imgL e sq m)) = sq ∧ imgOf (sect (imgL e sq m)) = m := by
  have hb := hm.2.2
  have hle := imgL_len (e := e) (sq := sq) hb
  have h0 := hm.1
  have hk := hm.2.1
  have e1 : getI ((sect (imgL e sq m)).take 1) = m.kind := by
    have := sect_head (l := imgL e sq m) (by omega) (p := 0) (k := 1) (by omega)
    rw [List.drop_zero, List.drop_zero] at this
    rw [this, im_parts, List.append_assoc, List.take_left' (by rw [beN_len])]
    exact getI_be (by omega) (by omega) (by omega)
  have e2 : getI (((sect (imgL e sq m)).drop 1).take 2) = m.num := by
    rw [sect_head (by omega) (by omega), im_parts, seg _ _ _ (by simp [beN_len]) (by simp [beN_len])]
    exact getI_be (by omega) (by omega) (by omega)
  have e3 : getI (((sect (imgL e sq m)).drop 3).take 4) = e := by
    rw [sect_head (by omega) (by omega), show imgL e sq m = (beN 1 m.kind ++ beN 2 m.num) ++ beN 4 e ++ (beN 5 sq ++ m.body) from by simp [imgL], seg _ _ _ (by simp [beN_len]) (by simp [beN_len])]
    exact getI_be (by omega) (by omega) (by omega)
  have e4 : getI (((sect (imgL e sq m)).drop 7).take 5) = sq := by
    rw [sect_head (by omega) (by omega), show imgL e sq m = (beN 1 m.kind ++ beN 2 m.num ++ beN 4 e) ++ beN 5 sq ++ m.body from by simp [imgL], seg _ _ _ (by simp [beN_len]) (by simp [beN_len])]
    exact getI_be (by omega) (by omega) (by omega)
  have e5 : ((sect (imgL e sq m)).drop 12).take 240 = m.body := by
    rw [sect_head (by omega) (by omega), show imgL e sq m = (beN 1 m.kind ++ beN 2 m.num ++ beN 4 e ++ beN 5 sq) ++ m.body ++ [] from by simp [imgL], seg _ _ _ (by simp [beN_len]) (by omega)]
  refine ⟨⟨sect_sum (by omega), by rw [e1]; exact hk, by rw [e2]; exact h0⟩, e3, e4, ?_⟩
  unfold imgOf; rw [e1, e2, e5]
theorem next_rec {F : Nat → List UInt8} {room : Int} (hl : 1 ≤ ims.length ∧ ims.length ≤ 40) (hok : ∀ m ∈ ims, m.Ok) (he : 0 ≤ e ∧ e < 4294967296) (hs : 0 ≤ sq ∧ sq < 1099511627776) (hr : 1 + (ims.length : Int) ≤ room)
    (hF : ∀ (j : Nat) (p : List UInt8), (recB e sq ims)[j]? = some p → F j = p) : nextP F e sq room ims := by
  have h0 : F 0 = sect (hdL e sq ims) := hF 0 _ rfl
  have hC := hd_C (e := e) (sq := sq) hl.2
  have hI : ∀ j (hj : j < ims.length), F (1 + j) = sect (imgL e sq ims[j]) := fun j hj => hF (1 + j) _ (by
    rw [Nat.add_comm]; simp [recB, hj])
  refine ⟨?_, ?_, ?_, ?_, ?_, ?_, ?_⟩
  · rw [h0]; exact hd_P hl (by omega) (by omega) hok
  · rw [h0]; exact hd_E hl.2 (by omega)
  · rw [h0]; exact hd_S hl.2 (by omega)
  · rw [h0, hC]; exact hr
  · rw [h0, hC]
    apply List.ext_getElem
    · simp
    · intro j h1 h2
      simp only [List.getElem_map, List.getElem_range]
      rw [hI j h1, (im_all (hok _ (List.getElem_mem h1)) he hs).2.2.2]
  · intro j hj
    rw [h0, hC] at hj
    obtain ⟨a, b, c, d⟩ := im_all (hok _ (List.getElem_mem hj)) he hs
    rw [hI j hj]
    refine ⟨a, b, c, ?_⟩
    rw [d, h0, hd_N hl.2 (List.getElem?_eq_getElem hj) (hok _ (List.getElem_mem hj))]
  · rw [h0, hC, hd_U hl.2]
    congr 1
    unfold imgB
    rw [List.flatMap_def, List.flatMap_def]
    congr 1
    apply List.ext_getElem
    · simp
    · intro j h1 h2
      simp only [List.getElem_map, List.getElem_range]
      exact hI j (by simpa using h2)
end Go.Proofs.YtbegkbjigbkljaaGreatDoor
namespace Go.Proofs.YtbegkbjigbkljaaGreatDoor
theorem ws_cont (ps : List (List UInt8)) : ∀ (D : Dsk) (x i : Nat), (D.ws false x ps).cont i = (if x ≤ i then ps[i - x]? else none).getD (D.cont i) := by
  induction ps with
  | nil => intro D x i; simp [Dsk.ws]
  | cons q qs ih =>
    intro D x i
    simp only [Dsk.ws]
    rw [ih]
    have hc : (D.w1 false x q).cont i = if i = x then q else D.cont i := by
      show ((upf D.ver x (D.ver x ++ [q])) i).getLast?.getD (D.dur i) = _
      unfold upf
      split
      · rename_i h; subst h; simp
      · rfl
    rw [hc]
    rcases Nat.lt_trichotomy i x with h | h | h
    · rw [if_neg (show ¬ x + 1 ≤ i by omega), if_neg (show ¬ i = x by omega), if_neg (show ¬ x ≤ i by omega)]
    · subst h
      rw [if_neg (show ¬ i + 1 ≤ i by omega), if_pos rfl, if_pos (Nat.le_refl i), Nat.sub_self]; rfl
    · rw [if_pos (show x + 1 ≤ i by omega), if_neg (show ¬ i = x by omega), if_pos (show x ≤ i by omega), show i - x = (i - (x + 1)) + 1 from by omega, List.getElem?_cons_succ]
theorem wr_cont (ps : List (List UInt8)) (D : Dsk) (x i : Nat) : (D.wr x ps).cont i = (if x ≤ i then ps[i - x]? else none).getD (D.cont i) := ws_cont ps { D with f2 := tick D.f2 } x i
/-! ### the ring -/
theorem ring_low {s : Sup} {a : Int} {j : Nat} (hs : 0 ≤ s.start) (ha : 0 ≤ a) (h : a + j < s.len) : ringAt s (a + j) = (s.start + a).toNat + j := by
  unfold ringAt
  rw [Int.emod_eq_of_lt (by omega) h]; omega
theorem ring_high {s : Sup} {a : Int} {j : Nat} (hs : 0 ≤ s.start) (h1 : s.len ≤ a + j) (h : a + j < s.len + s.len) : ringAt s (a + j) = s.start.toNat + (a + j - s.len).toNat := by
  unfold ringAt
  rw [← Int.sub_emod_right (a + j) s.len, Int.emod_eq_of_lt (by omega) (by omega)]; omega
theorem ring_mod {s : Sup} (a b : Int) : ringAt s (a % s.len + b) = ringAt s (a + b) := by
  unfold ringAt; rw [Int.emod_add_emod]
theorem ring_inj {s : Sup} {h : Int} {i j : Nat} (hs : 0 ≤ s.start) (hh : 0 ≤ h ∧ h < s.len) (hi : (i : Int) < s.len) (hj : (j : Int) < s.len) (e : ringAt s (h + i) = ringAt s (h + j)) : i = j := by
  rcases Int.lt_or_le (h + i) s.len with a | a <;> rcases Int.lt_or_le (h + j) s.len with b | b
  · rw [ring_low hs hh.1 a, ring_low hs hh.1 b] at e; omega
  · rw [ring_low hs hh.1 a, ring_high hs b (by omega)] at e; omega
  · rw [ring_high hs a (by omega), ring_low hs hh.1 b] at e; omega
  · rw [ring_high hs a (by omega), ring_high hs b (by omega)] at e; omega
def appD (D : Dsk) (s : Sup) (a : Int) (k : Nat) (ps : List (List UInt8)) : Dsk := if k < ps.length then (D.wr (s.start + a).toNat (ps.take k)).wr s.start.toNat (ps.drop k) else D.wr (s.start + a).toNat (ps.take k)
theorem app_new {D : Dsk} {s : Sup} {a : Int} {k : Nat} {ps : List (List UInt8)} (hs : 0 ≤ s.start) (ha : 0 ≤ a ∧ a < s.len) (hl : (ps.length : Int) ≤ s.len) (hk : (k : Int) = min (ps.length : Int) (s.len - a)) {j : Nat} {p : List UInt8} (hj : ps[j]? = some p) : (appD D s a k ps).cont (ringAt s (a + j)) = p := by
  have hjl := (List.getElem?_eq_some_iff.1 hj).1
  rcases Nat.lt_or_ge j k with h | h
  · have hr : ringAt s (a + j) = (s.start + a).toNat + j := ring_low hs ha.1 (by omega)
    have h1 : (D.wr (s.start + a).toNat (ps.take k)).cont ((s.start + a).toNat + j) = p := by
      rw [wr_cont, if_pos (by omega), show (s.start + a).toNat + j - (s.start + a).toNat = j from by omega, List.getElem?_take, if_pos h, hj]; rfl
    unfold appD
    split
    · rw [hr, wr_cont]
      have : (if s.start.toNat ≤ (s.start + a).toNat + j then (ps.drop k)[(s.start + a).toNat + j - s.start.toNat]? else none) = none := by
        rw [if_pos (by omega)]; exact List.getElem?_eq_none (by rw [List.length_drop]; omega)
      rw [this]; exact h1
    · rw [hr]; exact h1
  · have hr : ringAt s (a + j) = s.start.toNat + (a + j - s.len).toNat := ring_high hs (by omega) (by omega)
    unfold appD
    rw [if_pos (by omega), hr, wr_cont, if_pos (by omega), show s.start.toNat + (a + j - s.len).toNat - s.start.toNat = j - k from by omega, List.getElem?_drop, show k + (j - k) = j from by omega, hj]; rfl
theorem app_old {D : Dsk} {s : Sup} {a : Int} {k : Nat} {ps : List (List UInt8)} (hs : 0 ≤ s.start) (ha : 0 ≤ a ∧ a < s.len) (hl : (ps.length : Int) ≤ s.len) (hk : (k : Int) = min (ps.length : Int) (s.len - a)) {i : Nat} (hi : ∀ j : Nat, j < ps.length → i ≠ ringAt s (a + j)) : (appD D s a k ps).cont i = D.cont i := by
  have h1 : (D.wr (s.start + a).toNat (ps.take k)).cont i = D.cont i := by
    rw [wr_cont]
    split
    · rename_i h
      rw [List.getElem?_eq_none]; rfl
      rw [List.length_take]
      rcases Nat.lt_or_ge (i - (s.start + a).toNat) (min k ps.length) with q | q
      · exact absurd (by rw [ring_low hs ha.1 (by omega)]; omega) (hi (i - (s.start + a).toNat) (by omega))
      · exact q
    · rfl
  unfold appD
  split
  · rw [wr_cont]
    split
    · rename_i hk2 h
      rw [List.getElem?_eq_none]; exact h1
      rw [List.length_drop]
      rcases Nat.lt_or_ge (i - s.start.toNat) (ps.length - k) with q | q
      · exact absurd (by rw [ring_high hs (by omega) (by omega)]; omega) (hi (k + (i - s.start.toNat)) (by omega))
      · exact q
    · exact h1
  · exact h1
/-! ### what Open reads -/
theorem next_congr {F F' : Nat → List UInt8} {e sq room : Int} {ims : List Img} (h : ∀ j, j < 1 + ims.length → F' j = F j) (hn : nextP F e sq room ims) : nextP F' e sq room ims := by
  obtain ⟨h1, h2, h3, h4, h5, h6, h7⟩ := hn
  have hl : ims.length = hCnt (F 0) := by rw [h5]; simp
  have e0 : F' 0 = F 0 := h 0 (by omega)
  have ej : ∀ j, j < hCnt (F 0) → F' (1 + j) = F (1 + j) := fun j hj => h (1 + j) (by omega)
  refine ⟨by rw [e0]; exact h1, by rw [e0]; exact h2, by rw [e0]; exact h3, by rw [e0]; exact h4, ?_, ?_, ?_⟩
  · rw [e0, h5]
    exact List.map_congr_left fun j hj => by rw [ej j (by simpa using hj)]
  · rw [e0]; intro j hj; rw [ej j hj]; exact h6 j hj
  · rw [e0, ← h7]
    congr 1
    rw [List.flatMap_def, List.flatMap_def]
    congr 1
    exact List.map_congr_left fun j hj => by rw [ej j (by simpa using hj)]
theorem next_fun {F : Nat → List UInt8} {e sq room : Int} {a b : List Img} (h1 : nextP F e sq room a) (h2 : nextP F e sq room b) : a = b := by
  rw [h1.2.2.2.2.1, h2.2.2.2.2.1]
theorem Runs.pos {D : Dsk} {s : Sup} {h q0 : Int} {rs : List Rc} {a q u : Int} (hh : 0 ≤ h ∧ h < s.len) (r : Runs D s h q0 0 rs a q u) : a = (h + u) % s.len ∧ q = q0 + rs.length ∧ 0 ≤ u ∧ u ≤ s.len ∧ (rs.length : Int) ≤ u := by
  induction r with
  | nil => exact ⟨by rw [Int.add_zero, Int.emod_eq_of_lt hh.1 hh.2], by simp, by omega, by omega, by simp⟩
  | snoc r hlt hn ih =>
    obtain ⟨h1, h2, h3, h4, h5⟩ := ih
    have hl := hn.len
    refine ⟨?_, by rw [h2]; simp; omega, by omega, by omega, by simp; omega⟩
    rw [h1, Int.emod_add_emod, Int.add_assoc]
theorem Runs.det {D : Dsk} {s : Sup} {a0 q0 u0 : Int} {rs : List Rc} {a q u : Int} (r : Runs D s a0 q0 u0 rs a q u) : ∀ {rs' : List Rc} {a' q' u' : Int}, Runs D s a0 q0 u0 rs' a' q' u' → rs.length = rs'.length → rs = rs' ∧ a = a' ∧ q = q' ∧ u = u' := by
  induction r with
  | nil =>
    intro rs' a' q' u' r' hl
    cases r' with
    | nil => exact ⟨rfl, rfl, rfl, rfl⟩
    | snoc r' _ _ => simp at hl
  | snoc r hlt hn ih =>
    intro rs' a' q' u' r' hl
    cases r' with
    | nil => simp at hl
    | snoc r' hlt' hn' =>
      obtain ⟨rfl, rfl, rfl, rfl⟩ := ih r' (by simpa using hl)
      obtain rfl := next_fun hn hn'
      exact ⟨rfl, rfl, rfl, rfl⟩
theorem Runs.cut {D : Dsk} {s : Sup} {a0 q0 u0 : Int} {rs : List Rc} {a q u : Int} (r : Runs D s a0 q0 u0 rs a q u) : ∀ k, k < rs.length → ∃ rs' a' q' u', rs'.length = k ∧ Runs D s a0 q0 u0 rs' a' q' u' ∧ u' < s.len ∧ ∃ ims, nextP (stepF D s a') s.epoch q' (s.len - u') ims := by
  induction r with
  | nil => intro k hk; simp at hk
  | snoc r hlt hn ih =>
    intro k hk
    simp only [List.length_append, List.length_cons, List.length_nil] at hk
    rcases Nat.lt_or_ge k (List.length _) with h | h
    · exact ih k h
    · exact ⟨_, _, _, _, by omega, r, hlt, _, hn⟩
theorem Runs.only {D : Dsk} {s : Sup} {a0 q0 u0 : Int} {rs rs' : List Rc} {a q u a' q' u' : Int} (r : Runs D s a0 q0 u0 rs a q u) (r' : Runs D s a0 q0 u0 rs' a' q' u')
    (hs : s.len ≤ u ∨ ∀ ims, ¬ nextP (stepF D s a) s.epoch q (s.len - u) ims) (hs' : s.len ≤ u' ∨ ∀ ims, ¬ nextP (stepF D s a') s.epoch q' (s.len - u') ims) : rs = rs' ∧ a = a' ∧ q = q' ∧ u = u' := by
  rcases Nat.lt_trichotomy rs.length rs'.length with h | h | h
  · obtain ⟨_, _, _, _, e1, e2, e3, ims, e4⟩ := r'.cut _ h
    obtain ⟨rfl, rfl, rfl, rfl⟩ := r.det e2 e1.symm
    rcases hs with g | g
    · omega
    · exact absurd e4 (g _)
  · exact r.det r' h
  · obtain ⟨_, _, _, _, e1, e2, e3, ims, e4⟩ := r.cut _ h
    obtain ⟨rfl, rfl, rfl, rfl⟩ := r'.det e2 e1.symm
    rcases hs' with g | g
    · omega
    · exact absurd e4 (g _)
theorem Runs.move {D D' : Dsk} {s : Sup} {h q0 : Int} (hh : 0 ≤ h ∧ h < s.len) {rs : List Rc} {a q u : Int} (r : Runs D s h q0 0 rs a q u) (hD : ∀ i : Nat, (i : Int) < u → D'.cont (ringAt s (h + i)) = D.cont (ringAt s (h + i))) : Runs D' s h q0 0 rs a q u := by
  induction r with
  | nil => exact .nil _ _ _
  | @snoc a' q' u' rs ims r hlt hn ih =>
    have hl := hn.len
    have hp := r.pos hh
    refine .snoc (ih (fun i hi => hD i (by omega))) hlt (next_congr (fun j hj => ?_) hn)
    show D'.cont (ringAt s (a' + j)) = D.cont (ringAt s (a' + j))
    rw [hp.1, ring_mod, show h + u' + (j : Int) = h + ((u'.toNat + j : Nat) : Int) from by omega]
    exact hD _ (by omega)
structure LogInv (D : Dsk) (s : Sup) (rs : List Rc) (a q u : Int) : Prop where
  runs : Runs D s s.head s.seq 0 rs a q u
  rest : ∀ i : Nat, u ≤ i → (i : Int) < s.len → ¬ headP (D.cont (ringAt s (s.head + i)))
theorem LogInv.app {D : Dsk} {s : Sup} {rs : List Rc} {a q u : Int} {ims : List Img} {k : Nat} (hs : 0 ≤ s.start) (hh : 0 ≤ s.head ∧ s.head < s.len) (h : LogInv D s rs a q u) (hl : 1 ≤ ims.length ∧ ims.length ≤ 40) (hok : ∀ m ∈ ims, m.Ok) (he : 0 ≤ s.epoch ∧ s.epoch < 4294967296) (hq : 0 ≤ q ∧ q < 1099511627776)
    (hr : 1 + (ims.length : Int) ≤ s.len - u) (hk : (k : Int) = min (1 + (ims.length : Int)) (s.len - a)) :
    LogInv (appD D s a k (recB s.epoch q ims)) s (rs ++ [⟨q, ims⟩]) ((a + (1 + (ims.length : Int))) % s.len) (q + 1) (u + (1 + (ims.length : Int))) := by
  have hp := h.runs.pos hh
  have hpl : (recB s.epoch q ims).length = 1 + ims.length := (recB_ok hok hl.2).2
  have ha : 0 ≤ a ∧ a < s.len := by rw [hp.1]; exact ⟨Int.emod_nonneg _ (by omega), Int.emod_lt_of_pos _ (by omega)⟩
  have hk' : (k : Int) = min ((recB s.epoch q ims).length : Int) (s.len - a) := by rw [hpl]; omega
  have hra : ∀ j : Nat, ringAt s (a + j) = ringAt s (s.head + ((u.toNat + j : Nat) : Int)) := fun j => by
    rw [hp.1, ring_mod]; congr 1; omega
  have hold : ∀ i : Nat, (i : Int) < s.len → ((i : Int) < u ∨ u + (1 + (ims.length : Int)) ≤ i) → (appD D s a k (recB s.epoch q ims)).cont (ringAt s (s.head + i)) = D.cont (ringAt s (s.head + i)) := fun i hi hu => by
    refine app_old hs ha (by omega) hk' fun j hj e => ?_
    rw [hra] at e
    have := ring_inj hs hh hi (by omega) e
    omega
  refine ⟨.snoc (h.runs.move hh fun i hi => hold i (by omega) (.inl hi)) (by omega) (next_rec hl hok he hq (by omega) fun j p hj => app_new hs ha (by omega) hk' hj), fun i hi hi2 => ?_⟩
  rw [hold i hi2 (.inr hi)]
  exact h.rest i (by omega) hi2
theorem zero_head : ¬ headP (List.replicate 256 0) := fun h => by
  have := h.1.2
  simp at this
theorem LogInv.new {n : Nat} {s : Sup} : LogInv (newD n) s [] s.head s.seq 0 := ⟨.nil _ _ _, fun i _ _ h => zero_head h⟩
end Go.Proofs.YtbegkbjigbkljaaGreatDoor
namespace Go.Proofs.YtbegkbjigbkljaaGreatDoor
def Tg (c : List UInt8) (e q : Int) : Prop := (headP c ∧ headE c = e ∧ headS c = q) ∨ (imgP c ∧ imgX c = e ∧ imgY c = q)
theorem zero_img : ¬ imgP (List.replicate 256 0) := fun h => by
  have := h.2.1.1
  revert this; decide
theorem zero_tag (e q : Int) : ¬ Tg (List.replicate 256 0) e q := by
  rintro (⟨h, _⟩ | ⟨h, _⟩)
  · exact zero_head h
  · exact zero_img h
theorem head_no_img {c : List UInt8} (h : headP c) (g : imgP c) : False := by
  have h1 := h.1.2
  have h2 := g.2.1.2
  have : c.take 1 = [80] := by
    have := congrArg (List.take 1) h1
    rwa [List.take_take] at this
  rw [this] at h2
  revert h2; decide
variable {e q : Int} {ims : List Img}
theorem rec_cases {p : Nat} {c : List UInt8} (hp : (recB e q ims)[p]? = some c) : (p = 0 ∧ c = sect (hdL e q ims)) ∨ ∃ j m, p = j + 1 ∧ ims[j]? = some m ∧ c = sect (imgL e q m) := by
  cases p with
  | zero => simp [recB] at hp; exact .inl ⟨rfl, hp.symm⟩
  | succ j =>
    simp only [recB, List.getElem?_cons_succ, List.getElem?_map, Option.map_eq_some_iff] at hp
    obtain ⟨m, h1, h2⟩ := hp
    exact .inr ⟨j, m, rfl, h1, h2.symm⟩
theorem tag_rec (hl : 1 ≤ ims.length ∧ ims.length ≤ 40) (hok : ∀ m ∈ ims, m.Ok) (he : 0 ≤ e ∧ e < 4294967296) (hq : 0 ≤ q ∧ q < 1099511627776) {p : Nat} {c : List UInt8} (hp : (recB e q ims)[p]? = some c) {e' q' : Int} (h : Tg c e' q') : e' = e ∧ q' = q := by
  rcases rec_cases hp with ⟨rfl, rfl⟩ | ⟨j, m, rfl, hm, rfl⟩
  · have hP := hd_P hl (e := e) (sq := q) (by omega) (by omega) hok
    rcases h with ⟨_, h1, h2⟩ | ⟨h1, _⟩
    · exact ⟨h1.symm.trans (hd_E hl.2 (by omega)), h2.symm.trans (hd_S hl.2 (by omega))⟩
    · exact (head_no_img hP h1).elim
  · obtain ⟨a, b, d, _⟩ := im_all (hok m (List.mem_of_getElem? hm)) he hq
    rcases h with ⟨h1, _⟩ | ⟨_, h1, h2⟩
    · exact (head_no_img h1 a).elim
    · exact ⟨h1.symm.trans b, h2.symm.trans d⟩
/-! ### the sectors of records, one behind the other -/
def secs (e : Int) (rs : List Rc) : List (List UInt8) := rs.flatMap fun r => recB e r.seq r.ims
theorem secs_app (e : Int) (rs ss : List Rc) : secs e (rs ++ ss) = secs e rs ++ secs e ss := by simp [secs]
theorem secs_one (e : Int) (r : Rc) : secs e [r] = recB e r.seq r.ims := by simp [secs]
theorem recB_len (e q : Int) (ims : List Img) : (recB e q ims).length = 1 + ims.length := by simp [recB]; omega
theorem secs_split (e : Int) {rs : List Rc} {j : Nat} {r : Rc} (h : rs[j]? = some r) : secs e rs = secs e (rs.take j) ++ recB e r.seq r.ims ++ secs e (rs.drop (j + 1)) := by
  have hj := (List.getElem?_eq_some_iff.1 h).1
  have : rs = rs.take j ++ [r] ++ rs.drop (j + 1) := by
    rw [← (List.getElem?_eq_some_iff.1 h).2, List.take_append_getElem hj, List.take_append_drop]
  conv => lhs; rw [this]
  rw [secs_app, secs_app, secs_one]
theorem secs_mem {e : Int} {rs : List Rc} {c : List UInt8} (h : c ∈ secs e rs) : ∃ (j : Nat) (r : Rc) (p : Nat), rs[j]? = some r ∧ (recB e r.seq r.ims)[p]? = some c := by
  obtain ⟨r, hr, hc⟩ := List.mem_flatMap.1 h
  obtain ⟨j, hj⟩ := List.getElem?_of_mem hr
  obtain ⟨p, hp⟩ := List.getElem?_of_mem hc
  exact ⟨j, r, p, hj, hp⟩
/-! ### the log's place on its disk -/
def Has (D : Dsk) (n : Nat) (c : List UInt8) : Prop := c = D.dur n ∨ c ∈ D.ver n
def OldT (s : Sup) (c : List UInt8) : Prop := ∀ e q, Tg c e q → e < s.epoch ∨ (e = s.epoch ∧ q < s.seq)
structure PInv (D : Dsk) (s : Sup) (rs : List Rc) (pt : List (List UInt8)) (a q u : Int) (b : Bool) (sure : Nat) : Prop where
  fa : a = (s.head + u) % s.len
  fq : q = s.seq + rs.length + (if b then 1 else 0)
  fu : u = ((secs s.epoch rs).length : Int)
  ul : u ≤ s.len
  pb : b = false → pt = []
  part : pt = [] ∨ ∃ ims k, ((1 ≤ ims.length ∧ ims.length ≤ 40) ∧ (∀ m ∈ ims, m.Ok)) ∧ pt = (recB s.epoch (s.seq + rs.length) ims).take k ∧ k < 1 + ims.length ∧ u + (1 + (ims.length : Int)) ≤ s.len
  recs : ∀ (j : Nat) (r : Rc), rs[j]? = some r → r.seq = s.seq + j ∧ (1 ≤ r.ims.length ∧ r.ims.length ≤ 40) ∧ ∀ m ∈ r.ims, m.Ok
  old : ∀ i : Nat, (i : Int) < s.len → ∀ c, Has D (ringAt s (s.head + i)) c → OldT s c ∨ (secs s.epoch rs ++ pt)[i]? = some c
  last : ∀ (i : Nat) (c : List UInt8), (secs s.epoch rs ++ pt)[i]? = some c → D.cont (ringAt s (s.head + i)) = c
  dura : ∀ (i : Nat) (c : List UInt8), (secs s.epoch (rs.take sure))[i]? = some c → D.dur (ringAt s (s.head + i)) = c ∧ D.ver (ringAt s (s.head + i)) = []
  sure : sure ≤ rs.length
structure SOk (s : Sup) : Prop where
  start : 0 ≤ s.start
  head : 0 ≤ s.head ∧ s.head < s.len
  epoch : 0 ≤ s.epoch ∧ s.epoch < 4294967296
  seq : 0 ≤ s.seq
theorem PInv.f {D D' : Dsk} {s : Sup} {rs : List Rc} {pt : List (List UInt8)} {a q u : Int} {b : Bool} {sure : Nat} (h : PInv D s rs pt a q u b sure) (h1 : D'.dur = D.dur) (h2 : D'.ver = D.ver) : PInv D' s rs pt a q u b sure :=
  ⟨h.fa, h.fq, h.fu, h.ul, h.pb, h.part, h.recs, fun i hi c hc => h.old i hi c (by unfold Has at hc ⊢; rwa [h1, h2] at hc), fun i c hc => by have := h.last i c hc; unfold Dsk.cont at this ⊢; rw [h1, h2]; exact this,
    fun i c hc => by rw [h1, h2]; exact h.dura i c hc, h.sure⟩
theorem PInv.new {n : Nat} {s : Sup} (hs : SOk s) : PInv (newD n) s [] [] s.head s.seq 0 false 0 := by
  refine ⟨?_, by simp, by simp [secs], by have := hs.head; omega, fun _ => rfl, .inl rfl, fun j r h => by simp at h, fun i hi c hc => .inl fun e q ht => ?_, fun i c h => by simp [secs] at h, fun i c h => by simp [secs] at h, Nat.le_refl _⟩
  · rw [Int.add_zero, Int.emod_eq_of_lt hs.head.1 hs.head.2]
  · rcases hc with rfl | hc
    · exact (zero_tag _ _ ht).elim
    · cases hc
theorem ring_all {s : Sup} (hl : 0 < s.len) (h x : Int) : ∃ i : Nat, (i : Int) < s.len ∧ ringAt s x = ringAt s (h + i) := by
  have h1 := Int.emod_nonneg (x - h) (by omega : s.len ≠ 0)
  have h2 := Int.emod_lt_of_pos (x - h) hl
  refine ⟨((x - h) % s.len).toNat, by omega, ?_⟩
  unfold ringAt
  rw [Int.toNat_of_nonneg h1, Int.add_emod_emod]
  congr 3; omega
theorem PInv.tags {D : Dsk} {s : Sup} {rs : List Rc} {pt : List (List UInt8)} {a q u : Int} {b : Bool} {sure : Nat} (h : PInv D s rs pt a q u b sure) (hs : SOk s) (hq : q ≤ 1099511627776) {i : Nat} (hi : (i : Int) < s.len) {c : List UInt8} (hc : Has D (ringAt s (s.head + i)) c) {e' q' : Int} (ht : Tg c e' q') : e' < s.epoch ∨ (e' = s.epoch ∧ q' < q) := by
  have hqq := h.fq
  have hsq := hs.seq
  rcases h.old i hi c hc with g | g
  · rcases g _ _ ht with g | ⟨g1, g2⟩
    · exact .inl g
    · refine .inr ⟨g1, ?_⟩; split at hqq <;> omega
  · rcases List.mem_append.1 (List.mem_of_getElem? g) with g | g
    · obtain ⟨j, r, p, hj, hp⟩ := secs_mem g
      obtain ⟨h1, h2, h3⟩ := h.recs j r hj
      have hjl := (List.getElem?_eq_some_iff.1 hj).1
      have := tag_rec h2 h3 hs.epoch (by split at hqq <;> omega) hp ht
      exact .inr ⟨this.1, by split at hqq <;> omega⟩
    · rcases h.part with rfl | ⟨ims, k, ⟨h1, h2⟩, rfl, h3, _⟩
      · cases g
      · cases b with
        | false => have := h.pb rfl; rw [this] at g; cases g
        | true =>
          rw [if_pos rfl] at hqq
          obtain ⟨p, hp⟩ := List.getElem?_of_mem g
          rw [List.getElem?_take] at hp
          split at hp
          · have := tag_rec h1 h2 hs.epoch (by omega) hp ht
            exact .inr ⟨this.1, by omega⟩
          · cases hp
theorem PInv.drop {D : Dsk} {s : Sup} {rs : List Rc} {pt : List (List UInt8)} {a q u : Int} {b : Bool} {sure : Nat} (h : PInv D s rs pt a q u b sure) (hs : SOk s) (hq : q ≤ 1099511627776) {s' : Sup} (h1 : s'.start = s.start) (h2 : s'.len = s.len) (h3 : s'.epoch = s.epoch) (h4 : s'.head = a) (h5 : s'.seq = q) (h0 : 0 ≤ s'.len) (hh : 0 ≤ s'.head ∧ s'.head < s'.len) : PInv D s' [] [] a q 0 false 0 := by
  have hl : 0 < s.len := by have := hs.head; omega
  refine ⟨?_, by rw [h5]; simp, by simp [secs], by omega, fun _ => rfl, .inl rfl, fun j r h => by simp at h, fun i hi c hc => .inl fun e q ht => ?_, fun i c h => by simp [secs] at h, fun i c h => by simp [secs] at h, Nat.le_refl _⟩
  · rw [Int.add_zero, ← h4, Int.emod_eq_of_lt hh.1 hh.2]
  · have hr : ringAt s' (s'.head + i) = ringAt s (s'.head + i) := by unfold ringAt; rw [h1, h2]
    rw [hr] at hc
    obtain ⟨i', hi', he⟩ := ring_all hl s.head (s'.head + i)
    rw [he] at hc
    have := h.tags hs hq hi' hc ht
    rw [h3, h5]; exact this
theorem PInv.crash {D D' : Dsk} {s : Sup} {rs : List Rc} {pt : List (List UInt8)} {a q u : Int} {b : Bool} {sure : Nat} (h : PInv D s rs pt a q u b sure) (hs : SOk s) (hq : q ≤ 1099511627776) (hD : ∀ n c, Has D' n c → Has D n c) {s' : Sup} (h1 : s'.start = s.start) (h2 : s'.len = s.len) (h3 : s'.epoch = s.epoch + 1) (hh : 0 ≤ s'.head ∧ s'.head < s'.len) : PInv D' s' [] [] s'.head s'.seq 0 false 0 := by
  have hl : 0 < s.len := by have := hs.head; omega
  refine ⟨?_, by simp, by simp [secs], by omega, fun _ => rfl, .inl rfl, fun j r h => by simp at h, fun i hi c hc => .inl fun e q ht => ?_, fun i c h => by simp [secs] at h, fun i c h => by simp [secs] at h, Nat.le_refl _⟩
  · rw [Int.add_zero, Int.emod_eq_of_lt hh.1 hh.2]
  · have hc := hD _ _ hc
    have hr : ringAt s' (s'.head + i) = ringAt s (s'.head + i) := by unfold ringAt; rw [h1, h2]
    rw [hr] at hc
    obtain ⟨i', hi', he⟩ := ring_all hl s.head (s'.head + i)
    rw [he] at hc
    have := h.tags hs hq hi' hc ht
    omega
/-! ### flushing -/
def Dsk.fl (D : Dsk) : Dsk := { D with dur := D.cont, ver := fun _ => [], f3 := tick D.f3, left := max 0 (D.left - 1) }
theorem cont_has (D : Dsk) (n : Nat) : Has D n (D.cont n) := by
  unfold Has Dsk.cont
  cases hl : (D.ver n).getLast? with
  | none => exact .inl rfl
  | some p => exact .inr (List.mem_of_getLast? hl)
theorem fl_has {D : Dsk} {n : Nat} {c : List UInt8} (h : Has D.fl n c) : Has D n c := by
  rcases h with rfl | h
  · exact cont_has D n
  · cases h
theorem PInv.flush {D : Dsk} {s : Sup} {rs : List Rc} {pt : List (List UInt8)} {a q u : Int} {b : Bool} {sure : Nat} (h : PInv D s rs pt a q u b sure) : PInv D.fl s rs pt a q u b rs.length :=
  ⟨h.fa, h.fq, h.fu, h.ul, h.pb, h.part, h.recs, fun i hi c hc => h.old i hi c (fl_has hc), fun i c hc => h.last i c hc,
    fun i c hc => ⟨h.last i c (by rw [List.take_length] at hc; rw [List.getElem?_append_left (List.getElem?_eq_some_iff.1 hc).1]; exact hc), rfl⟩, Nat.le_refl _⟩
/-! ### appending -/
theorem ws_dur (ps : List (List UInt8)) : ∀ (D : Dsk) (x : Nat), (D.ws false x ps).dur = D.dur := by
  induction ps with
  | nil => intro D x; rfl
  | cons p ps ih => intro D x; simp only [Dsk.ws]; rw [ih]; rfl
theorem ws_mem (ps : List (List UInt8)) : ∀ (D : Dsk) (x i : Nat) (c : List UInt8), c ∈ (D.ws false x ps).ver i → c ∈ D.ver i ∨ (x ≤ i ∧ ps[i - x]? = some c) := by
  induction ps with
  | nil => intro D x i c h; exact .inl h
  | cons p ps ih =>
    intro D x i c h
    simp only [Dsk.ws] at h
    rcases ih _ _ _ _ h with h | ⟨h1, h2⟩
    · have h : c ∈ (upf D.ver x (D.ver x ++ [p])) i := h
      unfold upf at h
      split at h
      · rename_i e; subst e
        rcases List.mem_append.1 h with h | h
        · exact .inl h
        · simp at h; subst h; exact .inr ⟨Nat.le_refl _, by simp⟩
      · exact .inl h
    · exact .inr ⟨by omega, by rw [show i - x = (i - (x + 1)) + 1 from by omega, List.getElem?_cons_succ]; exact h2⟩
theorem wr_has {D : Dsk} {x i : Nat} {ps : List (List UInt8)} {c : List UInt8} (h : Has (D.wr x ps) i c) : Has D i c ∨ (x ≤ i ∧ ps[i - x]? = some c) := by
  rcases h with rfl | h
  · exact .inl (.inl (congrFun (ws_dur ps { D with f2 := tick D.f2 } x) i))
  · rcases ws_mem ps { D with f2 := tick D.f2 } x i c h with h | h
    · exact .inl (.inr h)
    · exact .inr h
theorem app_has {D : Dsk} {s : Sup} {a : Int} {k : Nat} {ps : List (List UInt8)} (hs : 0 ≤ s.start) (ha : 0 ≤ a ∧ a < s.len) (hl : (ps.length : Int) ≤ s.len) (hk : (k : Int) = min (ps.length : Int) (s.len - a)) {n : Nat} {c : List UInt8} (h : Has (appD D s a k ps) n c) : Has D n c ∨ ∃ j : Nat, ps[j]? = some c ∧ n = ringAt s (a + j) := by
  have one : ∀ {n : Nat} {c : List UInt8}, Has (D.wr (s.start + a).toNat (ps.take k)) n c → Has D n c ∨ ∃ j : Nat, ps[j]? = some c ∧ n = ringAt s (a + j) := fun {n c} h => by
    rcases wr_has h with h | ⟨h1, h2⟩
    · exact .inl h
    · rw [List.getElem?_take] at h2
      split at h2
      · exact .inr ⟨_, h2, by rw [ring_low hs ha.1 (by omega)]; omega⟩
      · cases h2
  unfold appD at h
  split at h
  · rcases wr_has h with h | ⟨h1, h2⟩
    · exact one h
    · rw [List.getElem?_drop] at h2
      have hlt := (List.getElem?_eq_some_iff.1 h2).1
      exact .inr ⟨_, h2, by rw [ring_high hs (by omega) (by omega)]; omega⟩
  · exact one h
theorem wr_out' (D : Dsk) (x : Nat) (ps : List (List UInt8)) (j : Nat) (h : j < x ∨ x + ps.length ≤ j) : (D.wr x ps).ver j = D.ver j := Dsk.ws_ver false ps { D with f2 := tick D.f2 } x j h
theorem app_ver_out {D : Dsk} {s : Sup} {a : Int} {k : Nat} {ps : List (List UInt8)} (hs : 0 ≤ s.start) (ha : 0 ≤ a ∧ a < s.len) (hl : (ps.length : Int) ≤ s.len) (hk : (k : Int) = min (ps.length : Int) (s.len - a)) {i : Nat} (hi : ∀ j : Nat, j < ps.length → i ≠ ringAt s (a + j)) : (appD D s a k ps).ver i = D.ver i := by
  have h1 : (D.wr (s.start + a).toNat (ps.take k)).ver i = D.ver i := by
    refine wr_out' _ _ _ _ ?_
    rw [List.length_take]
    rcases Nat.lt_or_ge i (s.start + a).toNat with g | g
    · exact .inl g
    · rcases Nat.lt_or_ge (i - (s.start + a).toNat) (min k ps.length) with q | q
      · exact absurd (by rw [ring_low hs ha.1 (by omega)]; omega) (hi (i - (s.start + a).toNat) (by omega))
      · exact .inr (by omega)
  unfold appD
  split
  · refine (wr_out' _ _ _ _ ?_).trans h1
    rw [List.length_drop]
    rcases Nat.lt_or_ge i s.start.toNat with g | g
    · exact .inl g
    · rcases Nat.lt_or_ge (i - s.start.toNat) (ps.length - k) with q | q
      · exact absurd (by rw [ring_high hs (by omega) (by omega)]; omega) (hi (k + (i - s.start.toNat)) (by omega))
      · exact .inr (by omega)
  · exact h1
theorem PInv.at_ok {D : Dsk} {s : Sup} {rs : List Rc} {pt : List (List UInt8)} {a q u : Int} {b : Bool} {sure : Nat} (h : PInv D s rs pt a q u b sure) (hs : SOk s) : 0 ≤ a ∧ a < s.len := by
  have := hs.head
  rw [h.fa]; exact ⟨Int.emod_nonneg _ (by omega), Int.emod_lt_of_pos _ (by omega)⟩
theorem PInv.ring {D : Dsk} {s : Sup} {rs : List Rc} {pt : List (List UInt8)} {a q u : Int} {b : Bool} {sure : Nat} (h : PInv D s rs pt a q u b sure) (j : Nat) : ringAt s (a + j) = ringAt s (s.head + (((secs s.epoch rs).length + j : Nat) : Int)) := by
  have hu := h.fu
  rw [h.fa, ring_mod]; congr 1; omega
theorem PInv.app {D : Dsk} {s : Sup} {rs : List Rc} {pt : List (List UInt8)} {a q u : Int} {sure : Nat} (h : PInv D s rs pt a q u false sure) (hs : SOk s) {k : Nat} (hl : 1 ≤ ims.length ∧ ims.length ≤ 40) (hok : ∀ m ∈ ims, m.Ok) (hr : 1 + (ims.length : Int) ≤ s.len - u) (hk : (k : Int) = min (1 + (ims.length : Int)) (s.len - a)) :
    PInv (appD D s a k (recB s.epoch q ims)) s (rs ++ [⟨q, ims⟩]) [] ((a + (1 + (ims.length : Int))) % s.len) (q + 1) (u + (1 + (ims.length : Int))) false sure := by
  obtain rfl := h.pb rfl
  have ha := h.at_ok hs
  have hu := h.fu
  have hq := h.fq
  rw [if_neg (by decide)] at hq
  have hpl := recB_len s.epoch q ims
  have hk' : (k : Int) = min ((recB s.epoch q ims).length : Int) (s.len - a) := by rw [hpl]; omega
  have hsl : (secs s.epoch (rs ++ [⟨q, ims⟩])) = secs s.epoch rs ++ recB s.epoch q ims := by rw [secs_app, secs_one]
  have hfar : ∀ i : Nat, (i : Int) < s.len → i < (secs s.epoch rs).length → ∀ j : Nat, j < (recB s.epoch q ims).length → ringAt s (s.head + i) ≠ ringAt s (a + j) := fun i hi hi2 j hj e => by
    rw [h.ring] at e
    have := ring_inj hs.start hs.head hi (by omega) e
    omega
  refine ⟨?_, by simp; omega, by rw [hsl, List.length_append, hpl]; omega, by omega, fun _ => rfl, .inl rfl, fun j r hj => ?_, fun i hi c hc => ?_, fun i c hc => ?_, fun i c hc => ?_, by have := h.sure; simp; omega⟩
  · rw [h.fa, Int.emod_add_emod, Int.add_assoc]
  · rcases Nat.lt_or_ge j rs.length with g | g
    · rw [List.getElem?_append_left g] at hj; exact h.recs j r hj
    · rw [List.getElem?_append_right g] at hj
      have : j = rs.length := by have := (List.getElem?_eq_some_iff.1 hj).1; simp at this; omega
      subst this
      simp at hj; subst hj
      exact ⟨by dsimp only; omega, hl, hok⟩
  · rw [List.append_nil, hsl]
    rcases app_has hs.start ha (by omega) hk' hc with hc | ⟨j, hj, hn⟩
    · rcases h.old i hi c hc with g | g
      · exact .inl g
      · rw [List.append_nil] at g
        exact .inr (by rw [List.getElem?_append_left (List.getElem?_eq_some_iff.1 g).1]; exact g)
    · have hjl := (List.getElem?_eq_some_iff.1 hj).1
      rw [h.ring] at hn
      have := ring_inj hs.start hs.head hi (by omega) hn
      subst this
      exact .inr (by rw [List.getElem?_append_right (by omega), Nat.add_sub_cancel_left]; exact hj)
  · rw [List.append_nil, hsl] at hc
    rcases Nat.lt_or_ge i (secs s.epoch rs).length with g | g
    · rw [List.getElem?_append_left g] at hc
      rw [app_old hs.start ha (by omega) hk' (hfar i (by omega) g)]
      exact h.last i c (by rw [List.append_nil]; exact hc)
    · rw [List.getElem?_append_right g] at hc
      have := app_new (D := D) hs.start ha (by omega) hk' hc
      rw [h.ring, show (secs s.epoch rs).length + (i - (secs s.epoch rs).length) = i from by omega] at this
      exact this
  · rw [List.take_append_of_le_length h.sure] at hc
    have hil : i < (secs s.epoch rs).length := by
      have h1 := (List.getElem?_eq_some_iff.1 hc).1
      have h2 : (secs s.epoch rs).length = (secs s.epoch (rs.take sure)).length + (secs s.epoch (rs.drop sure)).length := by
        rw [← List.length_append, ← secs_app, List.take_append_drop]
      omega
    obtain ⟨h1, h2⟩ := h.dura i c hc
    have key : ∀ c', Has (appD D s a k (recB s.epoch q ims)) (ringAt s (s.head + i)) c' → Has D (ringAt s (s.head + i)) c' := fun c' hc' => by
      rcases app_has hs.start ha (by omega) hk' hc' with g | ⟨j, hj, hn⟩
      · exact g
      · exact (hfar i (by omega) hil j (List.getElem?_eq_some_iff.1 hj).1 hn).elim
    have hd : (appD D s a k (recB s.epoch q ims)).dur = D.dur := by
      unfold appD; split
      · exact (ws_dur _ _ _).trans (ws_dur _ { D with f2 := tick D.f2 } _)
      · exact ws_dur _ { D with f2 := tick D.f2 } _
    refine ⟨by rw [hd]; exact h1, ?_⟩
    have hno := app_ver_out (D := D) hs.start ha (by omega) hk' (hfar i (by omega) hil)
    rw [hno]; exact h2
end Go.Proofs.YtbegkbjigbkljaaGreatDoor
namespace Go.Proofs.YtbegkbjigbkljaaGreatDoor
variable {e q : Int} {ims : List Img}
/-! ### writes that fail -/
theorem PInv.fail0 {D : Dsk} {s : Sup} {rs : List Rc} {pt : List (List UInt8)} {a q u : Int} {sure : Nat} (h : PInv D s rs pt a q u false sure) : PInv D.wf s rs [] a (q + 1) u true sure := by
  obtain rfl := h.pb rfl
  have hq := h.fq
  rw [if_neg (by decide)] at hq
  exact ⟨h.fa, by rw [if_pos rfl]; omega, h.fu, h.ul, fun g => (by cases g), .inl rfl, h.recs, fun i hi c hc => h.old i hi c hc, fun i c hc => h.last i c hc, fun i c hc => h.dura i c hc, h.sure⟩
theorem PInv.fail1 {D : Dsk} {s : Sup} {rs : List Rc} {pt : List (List UInt8)} {a q u : Int} {sure : Nat} (h : PInv D s rs pt a q u false sure) (hs : SOk s) {k : Nat} (hl : 1 ≤ ims.length ∧ ims.length ≤ 40) (hok : ∀ m ∈ ims, m.Ok) (hr : 1 + (ims.length : Int) ≤ s.len - u) (hk : (k : Int) = min (1 + (ims.length : Int)) (s.len - a)) (hk2 : k < 1 + ims.length) :
    PInv (Dsk.wf (D.wr (s.start + a).toNat ((recB s.epoch q ims).take k))) s rs ((recB s.epoch q ims).take k) a (q + 1) u true sure := by
  obtain rfl := h.pb rfl
  have ha := h.at_ok hs
  have hu := h.fu
  have hq := h.fq
  rw [if_neg (by decide)] at hq
  have hpl := recB_len s.epoch q ims
  have hpk : ((recB s.epoch q ims).take k).length = k := by rw [List.length_take]; omega
  have hlow : ∀ j : Nat, j < k → (s.start + a).toNat + j = ringAt s (s.head + (((secs s.epoch rs).length + j : Nat) : Int)) := fun j hj => by
    rw [← h.ring, ring_low hs.start ha.1 (by omega)]
  have hhas : ∀ {n : Nat} {c : List UInt8}, Has (Dsk.wf (D.wr (s.start + a).toNat ((recB s.epoch q ims).take k))) n c → Has D n c ∨ ∃ j : Nat, ((recB s.epoch q ims).take k)[j]? = some c ∧ n = ringAt s (s.head + (((secs s.epoch rs).length + j : Nat) : Int)) := fun {n c} g => by
    rcases wr_has (D := D) (x := (s.start + a).toNat) (ps := (recB s.epoch q ims).take k) g with g | ⟨g1, g2⟩
    · exact .inl g
    · have hj := (List.getElem?_eq_some_iff.1 g2).1
      rw [hpk] at hj
      exact .inr ⟨_, g2, by rw [← hlow _ hj]; omega⟩
  have hfar : ∀ i : Nat, i < (secs s.epoch rs).length → ringAt s (s.head + i) < (s.start + a).toNat ∨ (s.start + a).toNat + ((recB s.epoch q ims).take k).length ≤ ringAt s (s.head + i) := fun i hi => by
    rw [hpk]
    rcases Nat.lt_or_ge (ringAt s (s.head + i)) (s.start + a).toNat with g | g
    · exact .inl g
    · rcases Nat.lt_or_ge (ringAt s (s.head + i)) ((s.start + a).toNat + k) with g2 | g2
      · have := hlow (ringAt s (s.head + i) - (s.start + a).toNat) (by omega)
        have := ring_inj (i := i) (j := (secs s.epoch rs).length + (ringAt s (s.head + i) - (s.start + a).toNat)) hs.start hs.head (by omega) (by omega) (by omega)
        omega
      · exact .inr g2
  have hno : ∀ i : Nat, i < (secs s.epoch rs).length → (Dsk.wf (D.wr (s.start + a).toNat ((recB s.epoch q ims).take k))).ver (ringAt s (s.head + i)) = D.ver (ringAt s (s.head + i)) := fun i hi => wr_out' D _ _ _ (hfar i hi)
  have hdur : (Dsk.wf (D.wr (s.start + a).toNat ((recB s.epoch q ims).take k))).dur = D.dur := ws_dur ((recB s.epoch q ims).take k) { D with f2 := tick D.f2 } _
  have hqs : q = s.seq + rs.length := by omega
  refine ⟨h.fa, by rw [if_pos rfl]; omega, h.fu, h.ul, fun g => (by cases g), .inr ⟨ims, k, ⟨hl, hok⟩, by rw [← hqs], hk2, by omega⟩, h.recs, fun i hi c hc => ?_, fun i c hc => ?_, fun i c hc => ?_, h.sure⟩
  · rcases hhas hc with hc | ⟨j, hj, hn⟩
    · rcases h.old i hi c hc with g | g
      · exact .inl g
      · rw [List.append_nil] at g
        exact .inr (by rw [List.getElem?_append_left (List.getElem?_eq_some_iff.1 g).1]; exact g)
    · have hjl := (List.getElem?_eq_some_iff.1 hj).1
      rw [hpk] at hjl
      have := ring_inj hs.start hs.head hi (by omega) hn
      subst this
      exact .inr (by rw [List.getElem?_append_right (by omega), Nat.add_sub_cancel_left]; exact hj)
  · rcases Nat.lt_or_ge i (secs s.epoch rs).length with g | g
    · rw [List.getElem?_append_left g] at hc
      have := h.last i c (by rw [List.append_nil]; exact hc)
      unfold Dsk.cont at this ⊢
      rw [hno i g, hdur]; exact this
    · rw [List.getElem?_append_right g] at hc
      have hjl := (List.getElem?_eq_some_iff.1 hc).1
      rw [hpk] at hjl
      have e1 := hlow (i - (secs s.epoch rs).length) hjl
      rw [show (secs s.epoch rs).length + (i - (secs s.epoch rs).length) = i from by omega] at e1
      rw [← e1]
      show (D.wr _ _).cont _ = c
      rw [wr_cont, if_pos (by omega), Nat.add_sub_cancel_left, hc]; rfl
  · have hil : i < (secs s.epoch rs).length := by
      have h1 := (List.getElem?_eq_some_iff.1 hc).1
      have h2 : (secs s.epoch rs).length = (secs s.epoch (rs.take sure)).length + (secs s.epoch (rs.drop sure)).length := by
        rw [← List.length_append, ← secs_app, List.take_append_drop]
      omega
    obtain ⟨h1, h2⟩ := h.dura i c hc
    exact ⟨by rw [hdur]; exact h1, by rw [hno i hil]; exact h2⟩
/-! ### behind a crash -/
structure Crashed (D D' : Dsk) : Prop where
  n : D'.n = D.n
  ver : ∀ i, D'.ver i = []
  dur : ∀ i, Has D i (D'.dur i)
theorem Crashed.has {D D' : Dsk} (h : Crashed D D') (n : Nat) (c : List UInt8) (hc : Has D' n c) : Has D n c := by
  rcases hc with rfl | hc
  · exact h.dur n
  · rw [h.ver] at hc; cases hc
theorem Crashed.cont {D D' : Dsk} (h : Crashed D D') (n : Nat) : D'.cont n = D'.dur n := by unfold Dsk.cont; rw [h.ver]; rfl
theorem PInv.reads {D D' : Dsk} {s : Sup} {rs : List Rc} {pt : List (List UInt8)} {a q u : Int} {b : Bool} {sure : Nat} (h : PInv D s rs pt a q u b sure) (hc : Crashed D D') {i : Nat} (hi : (i : Int) < s.len) {q' : Int} (hq : s.seq ≤ q') (ht : Tg (D'.cont (ringAt s (s.head + i))) s.epoch q') : (secs s.epoch rs ++ pt)[i]? = some (D'.cont (ringAt s (s.head + i))) := by
  rcases h.old i hi (D'.cont (ringAt s (s.head + i))) (by rw [hc.cont]; exact hc.dur _) with g | g
  · have := g _ _ ht
    omega
  · exact g
theorem PInv.one {D D' : Dsk} {s : Sup} {rs : List Rc} {pt : List (List UInt8)} {a q u : Int} {b : Bool} {sure : Nat} (h : PInv D s rs pt a q u b sure) (hs : SOk s) (hc : Crashed D D') (hq : q ≤ 1099511627776) {n : Nat} (hn : n ≤ rs.length) {a' q' u' : Int} (hu : u' = ((secs s.epoch (rs.take n)).length : Int)) (ha : a' = (s.head + u') % s.len) (hq' : q' = s.seq + n)
    (hnx : nextP (stepF D' s a') s.epoch q' (s.len - u') ims) : ∃ r, rs[n]? = some r ∧ r = ⟨q', ims⟩ := by
  obtain ⟨n1, n2, n3, n4, n5, n6, n7⟩ := hnx
  have hF : ∀ j : Nat, stepF D' s a' j = D'.cont (ringAt s (s.head + (((secs s.epoch (rs.take n)).length + j : Nat) : Int))) := fun j => by
    show D'.cont (ringAt s (a' + j)) = _
    rw [ha, ring_mod]; congr 2; omega
  have hcnt := n1.2.2.2.1
  have rd : ∀ j : Nat, j ≤ hCnt (stepF D' s a' 0) → Tg (stepF D' s a' j) s.epoch q' → (secs s.epoch rs ++ pt)[(secs s.epoch (rs.take n)).length + j]? = some (stepF D' s a' j) := fun j hj ht => by
    rw [hF] at ht ⊢
    exact h.reads hc (by omega) (by omega) ht
  have h0 := rd 0 (by omega) (.inl ⟨n1, n2, n3⟩)
  have hi : ∀ j : Nat, j < hCnt (stepF D' s a' 0) → (secs s.epoch rs ++ pt)[(secs s.epoch (rs.take n)).length + (1 + j)]? = some (stepF D' s a' (1 + j)) := fun j hj => by
    obtain ⟨g1, g2, g3, _⟩ := n6 j hj
    exact rd (1 + j) (by omega) (.inr ⟨g1, g2, g3⟩)
  have hqq := h.fq
  have hsq := hs.seq
  rcases Nat.lt_or_ge n rs.length with hlt | hge
  · have hr : rs[n]? = some rs[n] := List.getElem?_eq_getElem hlt
    obtain ⟨r1, r2, r3⟩ := h.recs n _ hr
    refine ⟨_, hr, ?_⟩
    have hsp := secs_split s.epoch hr
    have hp := recB_len s.epoch rs[n].seq rs[n].ims
    have hat : ∀ j : Nat, j < 1 + rs[n].ims.length → (secs s.epoch rs ++ pt)[(secs s.epoch (rs.take n)).length + j]? = (recB s.epoch rs[n].seq rs[n].ims)[j]? := fun j hj => by
      rw [hsp, List.append_assoc, List.append_assoc, List.getElem?_append_right (by omega), Nat.add_sub_cancel_left, List.getElem?_append_left (by omega)]
    have e0 := hat 0 (by omega)
    rw [h0] at e0
    have hf0 : stepF D' s a' 0 = sect (hdL s.epoch rs[n].seq rs[n].ims) := by
      simp [recB] at e0; exact e0
    have hC : hCnt (stepF D' s a' 0) = rs[n].ims.length := by rw [hf0, hd_C r2.2]
    have hnx2 : nextP (stepF D' s a') s.epoch rs[n].seq (s.len - u') rs[n].ims := by
      refine next_rec r2 r3 hs.epoch (by split at hqq <;> omega) (by omega) fun j p hj => ?_
      have hjl := (List.getElem?_eq_some_iff.1 hj).1
      cases j with
      | zero => have := hat 0 (by omega); rw [h0, hj] at this; exact Option.some.inj this
      | succ j =>
        have h1 := hi j (by omega)
        rw [Nat.add_comm 1 j] at h1
        have := hat (j + 1) (by omega)
        rw [h1, hj] at this
        exact Option.some.inj this
    have hnx1 : nextP (stepF D' s a') s.epoch q' (s.len - u') ims := ⟨n1, n2, n3, n4, n5, n6, n7⟩
    have e1 : rs[n].seq = q' := by omega
    rw [e1] at hnx2
    have e2 := next_fun hnx1 hnx2
    rw [e2, ← e1]
  · have hn2 : n = rs.length := by omega
    subst hn2
    rw [List.take_length] at h0 hi
    rw [List.getElem?_append_right (by omega), Nat.add_zero, Nat.sub_self] at h0
    rcases h.part with rfl | ⟨jms, k, ⟨p1, p2⟩, rfl, p3, p4⟩
    · simp at h0
    · have hk0 : 0 < k := by
        have := (List.getElem?_eq_some_iff.1 h0).1
        rw [List.length_take] at this; omega
      rw [List.getElem?_take, if_pos hk0] at h0
      have hf0 : stepF D' s a' 0 = sect (hdL s.epoch (s.seq + rs.length) jms) := by
        simp [recB] at h0; exact h0.symm
      have hC : hCnt (stepF D' s a' 0) = jms.length := by rw [hf0, hd_C p1.2]
      have := hi (k - 1) (by omega)
      rw [List.getElem?_append_right (by omega), show (secs s.epoch rs).length + (1 + (k - 1)) - (secs s.epoch rs).length = k from by omega, List.getElem?_take, if_neg (by omega)] at this
      cases this
theorem PInv.begins {D D' : Dsk} {s : Sup} {rs : List Rc} {pt : List (List UInt8)} {a q u : Int} {b : Bool} {sure : Nat} (h : PInv D s rs pt a q u b sure) (hs : SOk s) (hc : Crashed D D') (hq : q ≤ 1099511627776) {got : List Rc} {a' q' u' : Int} (r : Runs D' s s.head s.seq 0 got a' q' u') : got.length ≤ rs.length ∧ got = rs.take got.length ∧ u' = ((secs s.epoch got).length : Int) ∧ a' = (s.head + u') % s.len ∧ q' = s.seq + got.length := by
  have hpos := r.pos hs.head
  refine (fun (g : got.length ≤ rs.length ∧ got = rs.take got.length ∧ u' = ((secs s.epoch got).length : Int)) => ⟨g.1, g.2.1, g.2.2, hpos.1, hpos.2.1⟩) ?_
  clear hpos
  induction r with
  | nil => exact ⟨by simp, by simp, by simp [secs]⟩
  | @snoc a' q' u' got ims r hlt hn ih =>
    have hpos := r.pos hs.head
    obtain ⟨i1, i2, i3⟩ := ih
    obtain ⟨r1, hr1, hr2⟩ := h.one hs hc hq i1 (by rw [← i2]; exact i3) hpos.1 hpos.2.1 hn
    have hlt2 := (List.getElem?_eq_some_iff.1 hr1).1
    refine ⟨by simp; omega, ?_, ?_⟩
    · rw [List.length_append, List.length_singleton, List.take_add_one, ← i2, hr1, hr2]; rfl
    · rw [secs_app, List.length_append, secs_one, recB_len]; dsimp only; omega
theorem PInv.read {D D' : Dsk} {s : Sup} {rs : List Rc} {pt : List (List UInt8)} {a q u : Int} {b : Bool} {sure : Nat} (h : PInv D s rs pt a q u b sure) (hs : SOk s) (hc : Crashed D D') (hq : q ≤ 1099511627776) {got : List Rc} {a' q' u' : Int} (r : Runs D' s s.head s.seq 0 got a' q' u') (hstop : s.len ≤ u' ∨ ∀ ims, ¬ nextP (stepF D' s a') s.epoch q' (s.len - u') ims) : sure ≤ got.length ∧ got.length ≤ rs.length ∧ got = rs.take got.length := by
  obtain ⟨g1, g2, g3, g4, g5⟩ := h.begins hs hc hq r
  refine ⟨?_, g1, g2⟩
  rcases Nat.lt_or_ge got.length sure with hlt | hge
  · exfalso
    have hsu := h.sure
    have hqq := h.fq
    have hsq := hs.seq
    obtain ⟨r0, hr⟩ : ∃ r0, rs[got.length]? = some r0 := ⟨_, List.getElem?_eq_getElem (by omega)⟩
    obtain ⟨r1, r2, r3⟩ := h.recs _ _ hr
    have hr' : (rs.take sure)[got.length]? = some r0 := by rw [List.getElem?_take, if_pos hlt]; exact hr
    have hsp := secs_split s.epoch hr'
    have hp := recB_len s.epoch r0.seq r0.ims
    have htk : (rs.take sure).take got.length = got := by rw [List.take_take, Nat.min_eq_left (by omega)]; exact g2.symm
    have hle : (secs s.epoch (rs.take sure)).length ≤ (secs s.epoch rs).length := by
      have h2 : (secs s.epoch rs).length = (secs s.epoch (rs.take sure)).length + (secs s.epoch (rs.drop sure)).length := by
        rw [← List.length_append, ← secs_app, List.take_append_drop]
      omega
    have hlen : (secs s.epoch got).length + (1 + r0.ims.length) ≤ (secs s.epoch (rs.take sure)).length := by
      rw [hsp, htk, List.length_append, List.length_append]; omega
    have hu := h.fu
    have hul := h.ul
    have hnx : nextP (stepF D' s a') s.epoch q' (s.len - u') r0.ims := by
      have e1 : q' = r0.seq := by omega
      rw [e1]
      refine next_rec r2 r3 hs.epoch (by split at hqq <;> omega) (by omega) fun j p hj => ?_
      have hjl := (List.getElem?_eq_some_iff.1 hj).1
      have hat : (secs s.epoch (rs.take sure))[(secs s.epoch got).length + j]? = some p := by
        rw [hsp, htk, List.append_assoc, List.getElem?_append_right (by omega), Nat.add_sub_cancel_left, List.getElem?_append_left (by omega)]; exact hj
      obtain ⟨d1, d2⟩ := h.dura _ _ hat
      show D'.cont (ringAt s (a' + j)) = p
      rw [g4, ring_mod, show s.head + u' + (j : Int) = s.head + (((secs s.epoch got).length + j : Nat) : Int) from by omega, hc.cont]
      rcases hc.dur (ringAt s (s.head + (((secs s.epoch got).length + j : Nat) : Int))) with g | g
      · rw [g, d1]
      · rw [d2] at g; cases g
    rcases hstop with g | g
    · omega
    · exact g _ hnx
  · exact hge
end Go.Proofs.YtbegkbjigbkljaaGreatDoor
namespace Go.Proofs.YtbegkbjigbkljaaGreatDoor
structure Pg where
  kind : Int
  body : List UInt8
def Pg.Ok (p : Pg) : Prop := (1 ≤ p.kind ∧ p.kind ≤ 5) ∧ p.body.length = 240
def noPg : Pg := ⟨0, []⟩
def pgL (n : Nat) (p : Pg) : List UInt8 := [80, 80, 65, 71] ++ beN 1 p.kind ++ beN 4 (n : Int) ++ [0, 0, 0] ++ p.body
theorem pgL_len {n : Nat} {p : Pg} (h : p.Ok) : (pgL n p).length = 252 := by simp [pgL, beN_len, h.2]
def pgS (n : Nat) (p : Pg) : List UInt8 := sect (pgL n p)
theorem pgS_len {n : Nat} {p : Pg} (h : p.Ok) : (pgS n p).length = 256 := sect_len (Nat.le_of_eq (pgL_len h))
def HomeP (c : List UInt8) (n : Nat) (p : Pg) : Prop := (c = List.replicate 256 0 ∧ p = noPg) ∨ (p.Ok ∧ c = pgS n p)
theorem pg_take4 {n : Nat} {p : Pg} (h : p.Ok) : (pgS n p).take 4 = [80, 80, 65, 71] := by
  have hl := pgL_len (n := n) h
  have := sect_head (l := pgL n p) (by omega) (p := 0) (k := 4) (by omega)
  rw [List.drop_zero, List.drop_zero] at this
  unfold pgS
  rw [this]; rfl
theorem pg_not_zero {n : Nat} {p : Pg} (h : p.Ok) : pgS n p ≠ List.replicate 256 0 := fun e => by
  have := pg_take4 (n := n) h
  rw [e] at this
  exact absurd this (by decide)
def supL (x : Sup) : List UInt8 := [80, 83, 85, 80] ++ x.list.flatMap (beN 8)
theorem supL_len (x : Sup) : (supL x).length = 60 := by simp [supL, Sup.list, beN_len]
def supS (x : Sup) : List UInt8 := sect (supL x)
theorem supS_len (x : Sup) : (supS x).length = 256 := sect_len (by rw [supL_len]; omega)
def imPg (m : Img) : Pg := ⟨m.kind, m.body⟩
theorem imPg_ok {m : Img} (h : m.Ok) : (imPg m).Ok := ⟨h.2.1, h.2.2⟩
abbrev Pgs := Nat → Option Pg
def pgSet (f : Pgs) (n : Nat) (p : Pg) : Pgs := fun i => if i = n then some p else f i
def noPgs : Pgs := fun _ => none
def pgOv (f g : Pgs) : Pgs := fun i => (g i).or (f i)
def ovI (f : Pgs) (ims : List Img) : Pgs := ims.foldl (fun f m => pgSet f m.num.toNat (imPg m)) f
def ov (rs : List Rc) : Pgs := rs.foldl (fun f r => ovI f r.ims) noPgs
theorem ov_snoc (rs : List Rc) (r : Rc) : ov (rs ++ [r]) = ovI (ov rs) r.ims := by simp [ov, List.foldl_append]
def pgMap (f : Pgs) (B : Nat → Pg) : Nat → Pg := fun i => (f i).getD (B i)
theorem ovI_snoc (f : Pgs) (ims : List Img) (m : Img) : ovI f (ims ++ [m]) = pgSet (ovI f ims) m.num.toNat (imPg m) := by simp [ovI, List.foldl_append]
theorem ovI_mem (ims : List Img) : ∀ (f : Pgs) (n : Nat), (ovI f ims n).isSome = ((f n).isSome || ims.any fun m => decide (m.num.toNat = n)) := by
  induction ims with
  | nil => intro f n; simp [ovI]
  | cons m ims ih =>
    intro f n
    have : ovI f (m :: ims) = ovI (pgSet f m.num.toNat (imPg m)) ims := rfl
    rw [this, ih]
    unfold pgSet
    by_cases h : n = m.num.toNat
    · subst h; simp
    · have h2 : ¬ m.num.toNat = n := fun e => h e.symm
      simp [h, h2]
theorem ovI_get {f : Pgs} {ims : List Img} {n : Nat} {p : Pg} (h : ovI f ims n = some p) : f n = some p ∨ ∃ m ∈ ims, m.num.toNat = n ∧ p = imPg m := by
  induction ims generalizing f with
  | nil => exact .inl h
  | cons m ims ih =>
    have e : ovI f (m :: ims) = ovI (pgSet f m.num.toNat (imPg m)) ims := rfl
    rw [e] at h
    rcases ih h with g | ⟨m', h1, h2, h3⟩
    · unfold pgSet at g
      split at g
      · rename_i e; cases g; exact .inr ⟨m, by simp, e.symm, rfl⟩
      · exact .inl g
    · exact .inr ⟨m', by simp [h1], h2, h3⟩
theorem ov_get : ∀ (k : Nat) (rs : List Rc), rs.length = k → ∀ {n : Nat} {p : Pg}, ov rs n = some p → ∃ r ∈ rs, ∃ m ∈ r.ims, m.num.toNat = n ∧ p = imPg m := by
  intro k
  induction k with
  | zero => intro rs hl n p h; obtain rfl := List.length_eq_zero_iff.1 hl; cases h
  | succ k ih =>
    intro rs hl n p h
    obtain ⟨rs', r, rfl⟩ : ∃ rs' r, rs = rs' ++ [r] := ⟨rs.dropLast, rs.getLast (by intro e; subst e; simp at hl), (List.dropLast_concat_getLast (by intro e; subst e; simp at hl)).symm⟩
    rw [ov_snoc] at h
    rcases ovI_get h with g | ⟨m, h1, h2, h3⟩
    · obtain ⟨r', a, b⟩ := ih rs' (by simpa using hl) g; exact ⟨r', by simp [a], b⟩
    · exact ⟨r, by simp, m, h1, h2, h3⟩
end Go.Proofs.YtbegkbjigbkljaaGreatDoor
namespace Go.Proofs.YtbegkbjigbkljaaGreatDoor
def hwD (D : Dsk) (l : List (Nat × Pg)) : Dsk := l.foldl (fun D x => D.wr (2 + x.1) [pgS x.1 x.2]) D
theorem hwD_snoc (D : Dsk) (l : List (Nat × Pg)) (x : Nat × Pg) : hwD D (l ++ [x]) = (hwD D l).wr (2 + x.1) [pgS x.1 x.2] := by simp [hwD, List.foldl_append]
theorem hwD_cons (D : Dsk) (l : List (Nat × Pg)) (x : Nat × Pg) : hwD D (x :: l) = hwD (D.wr (2 + x.1) [pgS x.1 x.2]) l := rfl
theorem wr_dur (D : Dsk) (x : Nat) (ps : List (List UInt8)) : (D.wr x ps).dur = D.dur := ws_dur ps { D with f2 := tick D.f2 } x
theorem hw_n (l : List (Nat × Pg)) : ∀ D : Dsk, (hwD D l).n = D.n := by
  induction l with
  | nil => intro D; rfl
  | cons x l ih => intro D; rw [hwD_cons, ih, Dsk.wr_n]
theorem hw_dur (l : List (Nat × Pg)) : ∀ D : Dsk, (hwD D l).dur = D.dur := by
  induction l with
  | nil => intro D; rfl
  | cons x l ih => intro D; rw [hwD_cons, ih, wr_dur]
theorem hw_has (l : List (Nat × Pg)) : ∀ (D : Dsk) (i : Nat) (c : List UInt8), Has (hwD D l) i c → Has D i c ∨ ∃ x ∈ l, i = 2 + x.1 ∧ c = pgS x.1 x.2 := by
  induction l with
  | nil => intro D i c h; exact .inl h
  | cons x l ih =>
    intro D i c h
    rw [hwD_cons] at h
    rcases ih _ _ _ h with g | ⟨y, h1, h2, h3⟩
    · rcases wr_has g with g | ⟨g1, g2⟩
      · exact .inl g
      · have : i - (2 + x.1) = 0 := by
          have := (List.getElem?_eq_some_iff.1 g2).1
          simp at this; omega
        rw [this] at g2
        simp at g2
        exact .inr ⟨x, by simp, by omega, g2.symm⟩
    · exact .inr ⟨y, by simp [h1], h2, h3⟩
theorem hw_out (l : List (Nat × Pg)) : ∀ (D : Dsk) (i : Nat), (∀ x ∈ l, i ≠ 2 + x.1) → (hwD D l).ver i = D.ver i := by
  induction l with
  | nil => intro D i _; rfl
  | cons x l ih =>
    intro D i h
    rw [hwD_cons, ih _ _ (fun y hy => h y (by simp [hy]))]
    refine wr_out' _ _ _ _ ?_
    have := h x (by simp)
    simp only [List.length_cons, List.length_nil]
    omega
theorem hw_cont_out (l : List (Nat × Pg)) (D : Dsk) (i : Nat) (h : ∀ x ∈ l, i ≠ 2 + x.1) : (hwD D l).cont i = D.cont i := by
  unfold Dsk.cont; rw [hw_out l D i h, hw_dur]
theorem hw_in (l : List (Nat × Pg)) : ∀ (D : Dsk), (l.map Prod.fst).Nodup → ∀ x ∈ l, (hwD D l).cont (2 + x.1) = pgS x.1 x.2 := by
  induction l with
  | nil => intro D _ x h; cases h
  | cons y l ih =>
    intro D hn x hx
    rw [hwD_cons]
    simp only [List.map_cons, List.nodup_cons] at hn
    rcases List.mem_cons.1 hx with rfl | hx
    · rw [hw_cont_out]
      · rw [wr_cont, if_pos (Nat.le_refl _), Nat.sub_self]; rfl
      · intro z hz e
        exact hn.1 (List.mem_map.2 ⟨z, hz, by omega⟩)
    · exact ih _ hn.2 x hx
theorem hw_len (l : List (Nat × Pg)) : ∀ (D : Dsk) (i : Nat), (l.map Prod.fst).Nodup → ((hwD D l).ver i).length ≤ (D.ver i).length + 1 := by
  induction l with
  | nil => intro D i _; show (D.ver i).length ≤ _; omega
  | cons y l ih =>
    intro D i hn
    rw [hwD_cons]
    simp only [List.map_cons, List.nodup_cons] at hn
    by_cases hi : i = 2 + y.1
    · rw [hw_out]
      · exact Dsk.wr_len _ _ _ _
      · intro z hz e
        exact hn.1 (List.mem_map.2 ⟨z, hz, by omega⟩)
    · have h1 := ih (D.wr (2 + y.1) [pgS y.1 y.2]) i hn.2
      rw [wr_out' D _ _ i (by simp only [List.length_cons, List.length_nil]; omega)] at h1
      exact h1
/-! ### a superblock saved -/
def svD (D : Dsk) (x : Sup) : Dsk := { Dsk.ws { D with f2 := tick D.f2 } true (x.gen % 2).toNat [supS x] with left := max 0 (D.left - 1) }
theorem sv_here (D : Dsk) (x : Sup) : (svD D x).dur (x.gen % 2).toNat = supS x ∧ (svD D x).ver (x.gen % 2).toNat = [] := by
  constructor
  · show (upf D.dur _ _) _ = _; simp [upf]
  · show (upf D.ver _ _) _ = _; simp [upf]
theorem sv_out (D : Dsk) (x : Sup) (i : Nat) (h : i ≠ (x.gen % 2).toNat) : (svD D x).dur i = D.dur i ∧ (svD D x).ver i = D.ver i := by
  constructor
  · show (upf D.dur _ _) _ = _; unfold upf; rw [if_neg h]
  · show (upf D.ver _ _) _ = _; unfold upf; rw [if_neg h]
end Go.Proofs.YtbegkbjigbkljaaGreatDoor
namespace Go.Proofs.YtbegkbjigbkljaaGreatDoor
open Go.RowKit
abbrev FX (ro : Option Nat) : Fence := { Fence.wide with round := ro }
def RW (P : Program) (ro : Option Nat) (c : Code) (Q : Exit → Act → World → Prop) (a : Act) (w : World) : Prop := c.wpIn (FX ro) 0 P Q a w
section
variable {P : Program} {ro : Option Nat} {N R : Act → World → Prop} {X : Nat → Act → World → Prop} {a : Act} {w : World} {n : Nat} {ds : List Deferred} {L : List (Nat × Value)}
theorem rk_seq {x y : Code} (h : ∀ a, Fr n ds L a → RW P ro x (Qp (fun a w => RW P ro y (Qp N X R) a w) X R) a w) : ∀ a, Fr n ds L a → RW P ro (Code.seq x y) (Qp N X R) a w := fun a hF =>
  wpIn_seq (wpIn_mono (h a hF) fun e a w q => by cases e <;> exact q)
theorem rk_skip (h : ∀ a, Fr n ds L a → N a w) : ∀ a, Fr n ds L a → RW P ro Code.skip (Qp N X R) a w := fun a hF => wpIn_skip (h a hF)
theorem rk_exit {id : Nat} (h : ∀ a, Fr n ds L a → X id a w) : ∀ a, Fr n ds L a → RW P ro (Code.exit id) (Qp N X R) a w := fun a hF => wpIn_exit (h a hF)
theorem rk_block {id : Nat} {c : Code} (h : ∀ a, Fr n ds L a → RW P ro c (Qp N (upd X id N) R) a w) : ∀ a, Fr n ds L a → RW P ro (Code.block id c) (Qp N X R) a w := fun a hF =>
  wpIn_block (wpIn_mono (h a hF) fun e a w q => by cases e <;> exact q)
theorem rk_true {c : Operand} {x y : Code} (hc : ev L c = some (.bool true)) (h : ∀ a, Fr n ds L a → RW P ro x (Qp N X R) a w) : ∀ a, Fr n ds L a → RW P ro (Code.cond c x y) (Qp N X R) a w := fun a hF => wpIn_cond_true (hF.ev hc) (h a hF)
theorem rk_false {c : Operand} {x y : Code} (hc : ev L c = some (.bool false)) (h : ∀ a, Fr n ds L a → RW P ro y (Qp N X R) a w) : ∀ a, Fr n ds L a → RW P ro (Code.cond c x y) (Qp N X R) a w := fun a hF => wpIn_cond_false (hF.ev hc) (h a hF)
theorem rk_cond {c : Operand} {x y : Code} {b : Bool} (hc : ev L c = some (.bool b)) (ht : b = true → ∀ a, Fr n ds L a → RW P ro x (Qp N X R) a w) (hf : b = false → ∀ a, Fr n ds L a → RW P ro y (Qp N X R) a w) : ∀ a, Fr n ds L a → RW P ro (Code.cond c x y) (Qp N X R) a w := by
  cases b with
  | true => exact rk_true hc (ht rfl)
  | false => exact rk_false hc (hf rfl)
theorem rk_dec {c : Operand} {x y : Code} {p : Prop} [hp : Decidable p] (hc : ev L c = some (.bool (decide p))) (ht : p → ∀ a, Fr n ds L a → RW P ro x (Qp N X R) a w) (hf : ¬ p → ∀ a, Fr n ds L a → RW P ro y (Qp N X R) a w) : ∀ a, Fr n ds L a → RW P ro (Code.cond c x y) (Qp N X R) a w :=
  rk_cond hc (fun h => ht (of_decide_eq_true h)) (fun h => hf (of_decide_eq_false h))
theorem rc_loop {c : Code} {σ : Type} (Lv : σ → List (Nat × Value)) (G : σ → World → Prop) (m : σ → Nat) (s₀ : σ)
    (h₀ : ∀ a, Fr n ds L a → Fr n ds (Lv s₀) a) (g₀ : G s₀ w)
    (round : ∀ s w, G s w → ∀ a, Fr n ds (Lv s) a → RW P ro c (Qp (fun a' w' => ∃ s', Fr n ds (Lv s') a' ∧ G s' w' ∧ m s' < m s) X R) a w) : ∀ a, Fr n ds L a → RW P ro (Code.loop c) (Qp N X R) a w := by
  intro a hF b k cs hro hb hr
  have key : ∀ n' s a w, m s = n' → Fr n ds (Lv s) a → G s w →
      ∃ e a' w', Qp N X R e a' w' ∧ ArrivesIn (Machine.fenced P (FX ro)) P (lone (b.atR a (.code c :: .inLoop c :: k)) cs w) b k cs e a' w' := by
    intro n'
    induction n' using Nat.strongRecOn with
    | _ n' ih =>
      intro s a w hn hI hG
      obtain ⟨e, a₁, w₁, hq, harr⟩ := round s w hG a hI b (.inLoop c :: k) cs hro hb hr
      cases e with
      | normal =>
        obtain ⟨s₁, hI₁, hG₁, hlt⟩ := hq
        obtain ⟨e₂, a₂, w₂, hq₂, harr₂⟩ := ih (m s₁) (hn ▸ hlt) s₁ a₁ w₁ rfl hI₁ hG₁
        exact ⟨e₂, a₂, w₂, hq₂, .of_steps (StepsIn.trans harr (.one (fenced_calm hb hr rfl) stepR_inLoop)) harr₂⟩
      | exit id => exact ⟨.exit id, a₁, w₁, hq, .pass (x := .inLoop c) rfl (fun _ _ => .inl (by simp)) harr⟩
      | ret => exact ⟨.ret, a₁, w₁, hq, .pass (x := .inLoop c) rfl (fun _ _ => .inl (by simp)) harr⟩
      | goto l => exact hq.elim
      | panic ch => exact hq.elim
      | outgrown => exact hq.elim
  obtain ⟨e, a', w', hq, harr⟩ := key _ s₀ a w rfl (h₀ a hF) g₀
  exact ⟨e, a', w', hq, .of_steps (.one (fenced_calm hb hr rfl) stepR_loop) harr⟩
/-! ### Operations -/
def noDefer (o : Oper) : Bool := match o.op with | .defer _ => false | _ => true
theorem noDefer_ok {o : Oper} (h : noDefer o = true) : ∀ c, o.op ≠ .defer c := fun c e => by rw [noDefer, e] at h; cases h
theorem sem_at (o : Oper) (h : noDefer o = true) (ρ : Operand → Value) : Oper.semAt ro ρ o = execOp ρ o := by
  cases ro with
  | none => rfl
  | some l => exact Oper.semAt_some l ρ o (noDefer_ok h)
theorem calls_in {f : FuncId} {args : Array Value} {E : Ending → World → Prop} (h : Calls P f args w E) (k : Nat) : CallsIn (FX ro) k P f args w E := callsIn_wide.2 h
theorem rows_in {row : String} {args : Array Value} {E : Value → World → Prop} (h : Rows P row args w E) (k : Nat) : RowsIn (FX ro) k P row args w E := fun c cs _ =>
  let ⟨v, w', r, s⟩ := h c cs; ⟨v, w', r, stepsIn_wide.2 s⟩
theorem oper_in {o : Oper} (hd : noDefer o = true) {K : Act → World → Prop} (h : o.wp P a w K (Qp N X R)) : o.wpIn (FX ro) 0 P a w K (Qp N X R) := by
  refine ⟨fun _ _ => trivial, ?_⟩
  rw [show (FX ro).round = ro from rfl, sem_at o hd]
  unfold Oper.wp at h
  cases hr : (execOp a.eval o).run P w with
  | ok x w' =>
    rw [hr] at h
    cases x <;> simp only [Oper.upon, Oper.uponIn] at h ⊢ <;> first
      | exact h
      | exact h.elim
      | exact ⟨fun q => (by cases q), calls_in (Calls.mono h fun e w'' q => by cases e <;> exact q) _⟩
      | exact ⟨fun q => (by cases q), rows_in h _⟩
  | halt x w' =>
    rw [hr] at h
    cases x <;> simp only [Oper.upon, Oper.uponIn] at h ⊢ <;> first
      | exact h
      | exact h.elim
theorem no_out {Q : Exit → Act → World → Prop} {N R : Act → World → Prop} {X : Nat → Act → World → Prop} (hQ : Q = Qp N X R) : ¬ LetsOut Q := by
  subst hQ; rintro ⟨a, w, h⟩; exact h
theorem list_in {ops : Array Oper} : ∀ (l : List Oper) (a : Act) (w : World), l.all noDefer = true → wpList P ops (Qp N X R) l a w → wpListIn (FX ro) 0 P ops (Qp N X R) l a w
  | [], _, _, _, h => h
  | o :: rest, a, w, hd, h => by
    simp only [List.all_cons, Bool.and_eq_true] at hd
    unfold wpList at h
    unfold wpListIn
    split
    · rename_i hw
      rw [if_pos hw] at h
      rcases h with h | ⟨_, h⟩
      · exact Oper.wpIn_mono (fun a w q => list_in rest a w hd.2 q) (oper_in hd.1 h)
      · exact absurd h (no_out rfl)
    · rename_i hw
      rw [if_neg hw] at h
      exact ⟨fun _ _ => trivial, list_in rest _ _ hd.2 h⟩
theorem rs_region {id : Nat} {ops : List Oper} (h : ∀ a, Fr n ds L a → wpList P ops.toArray (Qp N X R) ops a w) (hd : ops.all noDefer = true := by rfl) : ∀ a, Fr n ds L a → RW P ro (Code.region id ops.toArray false) (Qp N X R) a w := fun a hF =>
  wpIn_region_lit (list_in ops a w hd (h a hF))
theorem op_in {ops : Array Oper} (hd : ops.toList.all noDefer = true) {i : Nat} {K : Act → World → Prop} (h : wpOp P ops (Qp N X R) i K a w) : wpOpIn (FX ro) 0 P ops (Qp N X R) i K a w := by
  unfold wpOp at h
  unfold wpOpIn
  split
  · rename_i e; rw [e] at h; exact h
  · rename_i o e
    rw [e] at h
    simp only at h
    have hdo : noDefer o = true := List.all_eq_true.1 hd o (by
      have := Array.mem_of_getElem? e
      simpa using this)
    split
    · rename_i hw
      rw [if_pos hw] at h
      rcases h with h | ⟨_, h⟩
      · exact oper_in hdo h
      · exact absurd h (no_out rfl)
    · rename_i hw
      rw [if_neg hw] at h
      exact ⟨fun _ _ => trivial, h⟩
theorem any_in {ops : Array Oper} (hd : ops.toList.all noDefer = true) : ∀ (fuel : Nat) (listed : Array Bool) (a : Act) (w : World), wpAny P .any ops (Qp N X R) fuel listed a w → wpAnyIn (FX ro) 0 P .any ops (Qp N X R) fuel listed a w
  | 0, _, _, _, h => h
  | fuel + 1, _, _, _, h => ⟨h.1, fun i hi => wpOpIn_mono (fun a w q => any_in hd fuel _ a w q) (op_in hd (h.2 i hi))⟩
theorem rl_region {id : Nat} {ops : List Oper} (S : World → Prop) (k : Nat) (hk : ops.length = k) (hm : P.follows .mixedOrders = true)
    (h : ∀ w', Ext No w w' → w'.heap.size = w.heap.size → ∀ a, Fr n ds L a → AnyK P ops (Qp N X R) S k (Array.replicate k false) a w') (hd : ops.all noDefer = true := by rfl) : ∀ a, Fr n ds L a → RW P ro (Code.region id ops.toArray true) (Qp N X R) a w := fun a hF =>
  wpIn_region_any hm (any_in (by simpa using hd) _ _ _ _ (wpAny_of_K (S := S) _ _ _ _ (by have := h _ (Ext.drawn No w) rfl a hF (Dc.start _ _) (by simp [hk]); simpa [hk] using this)))
theorem rq_region {id : Nat} {ops : List Oper} (C : World → Prop) (hm : P.follows .mixedOrders = true) (hB : Region.lexB .any ops.toArray = true) (hC : C w.drew)
    (h : ∀ a, Fr n ds L a → wpQuiet P ops.toArray C (fun a' => ∀ w', C w' → N a' w') ops a) (hd : ops.all noDefer = true := by rfl) : ∀ a, Fr n ds L a → RW P ro (Code.region id ops.toArray true) (Qp N X R) a w := fun a hF => by
  refine wpIn_region_any hm (any_in (by simpa using hd) _ _ _ _ ?_)
  have hB' := hB
  simp only [Region.lexB, Bool.and_eq_true] at hB'
  refine wpAny_of_quiet (C := C) (Q := fun a' => ∀ w', C w' → N a' w') (fun _ w' hw' h => h w' hw') _ _ _ _ hC ?_
  have := wpAnyQ_lex (C := C) (md := .any) hB'.1 ops.toArray.toList 0 (Array.replicate ops.toArray.size false) a (by simp) (by simpa using hB'.2) (h a hF)
  simpa using this
/-! ### Operations one by one, yield among them -/
section steps
variable {ops : List Oper} {Q : Exit → Act → World → Prop} {rest : List Oper} {o : Oper} {d : Nat} {v : Value}
theorem i_region {id : Nat} (h : ∀ a, Fr n ds L a → wpListIn (FX ro) 0 P ops.toArray (Qp N X R) ops a w) : ∀ a, Fr n ds L a → RW P ro (Code.region id ops.toArray false) (Qp N X R) a w := fun a hF => wpIn_region_lit (h a hF)
theorem i_end (h : ∀ a, Fr n ds L a → N a w) : ∀ a, Fr n ds L a → wpListIn (FX ro) 0 P ops.toArray (Qp N X R) [] a w := h
theorem i_do (hw : wantL ops L o.guard = true) (hd : o.dst = some d) (hlt : Nat.blt d n = true) (hdo : DoesL P (· = w) n ds L o v) (K : ∀ a', Fr n ds ((d, v) :: L) a' → wpListIn (FX ro) 0 P ops.toArray Q rest a' w) (hnd : noDefer o = true := by rfl) : ∀ a, Fr n ds L a → wpListIn (FX ro) 0 P ops.toArray Q (o :: rest) a w := by
  intro a hF
  unfold wpListIn
  rw [if_pos (wantL_ok hF hw)]
  refine ⟨fun _ _ => trivial, ?_⟩
  rw [show (FX ro).round = ro from rfl, sem_at o hnd, hdo a hF w rfl, Oper.uponIn_value, hd]
  exact K _ (hF.put d v hlt)
theorem i_yield {l : Nat} {x : Operand} {args : List Operand} {vs : List Value} {tys : Array TypeId} {E : Ending → World → Prop} (hw : wantL ops L o.guard = true) (hd : o.dst = some d) (hlt : Nat.blt d n = true)
    (ho : o.op = .call { callee := .value x, args := args.toArray, argTypes := tys }) (hx : ev L x = some (.func (.yield l) #[] #[])) (hargs : evs L args = some vs) (hy : YieldAt (FX none) 0 P l vs.toArray w E)
    (hE : ∀ e w', E e w' → ∃ v, e = .returned v ∧ ∀ a', Fr n ds ((d, v) :: L) a' → wpListIn (FX ro) 0 P ops.toArray Q rest a' w') : ∀ a, Fr n ds L a → wpListIn (FX ro) 0 P ops.toArray Q (o :: rest) a w := by
  intro a hF
  obtain ⟨fn, tmps, assign, body, hy, hR⟩ := hy
  have hnd : noDefer o = true := by rw [noDefer, ho]
  unfold wpListIn
  rw [if_pos (wantL_ok hF hw)]
  refine ⟨fun _ _ => trivial, ?_⟩
  have e1 := hF.evs hargs
  have e2 := hF.ev hx
  have hrun : (execOp a.eval o).run P w = .ok (.round l fn tmps assign body) w := by
    unfold execOp
    simp only [ho, resolve, e2, Deferred.ofValue, invoke]
    simp only [go_sem, List.map_toArray, e1, List.nil_append, List.append_nil, hy]
    simpa using hy
  rw [show (FX ro).round = ro from rfl, sem_at o hnd, hrun, Oper.uponIn_round]
  refine ⟨fun q => (by cases q), RoundIn.mono (show RoundIn (FX ro) 0 P l fn tmps assign body w E from hR) fun e w' q => ?_⟩
  obtain ⟨v, rfl, hK⟩ := hE e w' q
  simp only [hd]
  exact hK _ (hF.put d v hlt)
end steps
end
/-! ### An iterator -/
def It (P : Program) (gf : FuncId) (lb : List Value) (pre : List Asn) (vs : List (List Value)) : Prop :=
  ∀ (z : World) (l : Nat) (J : Nat → List Asn), (∀ i v, vs[i]? = some v → ∀ w, Sep z (pre ++ J i) w → YieldAt (FX none) 0 P l v.toArray w (fun e w' => e = .returned (.bool true) ∧ Sep z (pre ++ J (i + 1)) w')) →
    ∀ w, Sep z (pre ++ J 0) w → CallsIn (FX none) 0 P gf (#[Value.func (.yield l) #[] #[]] ++ lb.toArray) w (fun e w' => (∃ v, e = .returned v) ∧ Sep z (pre ++ J vs.length) w')
theorem it_enter {P : Program} {gf : FuncId} {fn : Func} {c : Code} {args : List Value} {w : World} {T : World → Prop} (hf : P.funcs[gf]? = some fn) (hb : fn.body = some c) (hr : fn.results = #[]) (n : Nat) (hn : fn.ntmps = n) (hlen : Nat.ble args.length n = true)
    (h : ∀ a, Fr n [] (first 0 args) a → RW P none c (Qp (fun a w => a.defers = [] ∧ T w) noX (fun a w => a.defers = [] ∧ T w)) a w) : CallsIn (FX none) 0 P gf args.toArray w (fun e w' => (∃ v, e = .returned v) ∧ T w') := by
  refine callsIn_of_wp hf hb trivial (wpIn_mono (h _ (by rw [hn]; exact Fr.start args n (by simpa using hlen))) fun e a w q => ?_) rfl
  cases e with
  | normal => exact ⟨q.1, .tuple #[], by simp [results, hr, go_sem], ⟨_, rfl⟩, q.2⟩
  | ret => exact ⟨q.1, .tuple #[], by simp [results, hr, go_sem], ⟨_, rfl⟩, q.2⟩
  | exit id => exact q.elim
  | goto l => exact q.elim
  | panic ch => exact q.elim
  | outgrown => exact q.elim
def mark (D : Nat) : Deferred := { target := .collected D, args := #[] }
def loopRec (st : LoopState) (fn : FuncId) (tmps : Array Value) (t : Nat) (assign body : Code) (D : Nat) : Obj := .loop { state := st, pending := none, fn, tmps, params := #[t], assign, body, defers := D }
theorem Sep.setObj {z w : World} {Γ : List Asn} (i : Nat) {b : Nat} {o : Obj} (o' : Obj) (H : Sep z Γ w) (hA : Γ[i]? = some (YtbegkbjigbkljaaGreatDoor.bk b o)) : Sep z (Γ.set i (YtbegkbjigbkljaaGreatDoor.bk b o')) (w.putObj b o') := by
  have hb := H.bk i hA
  have hlt : b < w.heap.size := (Array.getElem?_eq_some_iff.1 hb).1
  exact H.write i hA rfl rfl rfl (World.putObj_heap_same hlt) (fun k hk => World.putObj_heap_other hk)
theorem k_range {P : Program} {N R : Act → World → Prop} {X : Nat → Act → World → Prop} {z w : World} {n : Nat} {ds : List Deferred} {L : List (Nat × Value)} {g : Operand} {t : Nat} {assign body : Code} {gf : FuncId} {lb : List Value} {pre : List Asn} {vs : List Value}
    (J : Nat → List Asn) (hg : ev L g = some (.func (.func gf) #[] lb.toArray)) (eg : ∀ args w, (callFunc gf args).run P w = .ok (.enter gf args) w) (ht : Nat.blt t n = true) (hit : It P gf lb pre (vs.map fun v => [v])) (H : Sep z (J 0 ++ pre) w)
    (hround : ∀ (ro : Option Nat) (i : Nat) (v : Value), vs[i]? = some v → ∀ w a, Fr n [] ((t, v) :: L) a →
      RW P ro assign (Qp (fun a1 w1 => w1 = w ∧ ∀ (F : List Asn) (w : World), Sep z (J i ++ (pre ++ F)) w → RW P ro body (Qp (fun _ w3 => Sep z (J (i + 1) ++ (pre ++ F)) w3) noX (fun _ _ => False)) a1 w) noX (fun _ _ => False)) a w)
    (K : ∀ D w', Sep z (YtbegkbjigbkljaaGreatDoor.bk D (.deferred (some [])) :: (J vs.length ++ pre)) w' → ∀ a, Fr n (mark D :: ds) L a → N a w') :
    ∀ a, Fr n ds L a → (Code.rangeFunc g #[t] assign body).wp P (Qp N X R) a w := by
  intro a hF
  refine (wpIn_wide (n := 0)).1 ?_
  refine wpIn_rangeFunc ?_
  intro fn _
  have hro : Fence.wide.round = none := rfl
  rw [hro]
  obtain ⟨W1, hW1⟩ : ∃ W1, (w.alloc (.deferred (some []))).alloc (loopRec .ready fn a.tmps t assign body w.heap.size) = W1 := ⟨_, rfl⟩
  obtain ⟨D, hD⟩ : ∃ D, D = w.heap.size := ⟨_, rfl⟩
  obtain ⟨T, hT⟩ : ∃ T : List Asn, T = [YtbegkbjigbkljaaGreatDoor.bk D (.deferred (some [])), YtbegkbjigbkljaaGreatDoor.bk (D + 1) (loopRec .ready fn a.tmps t assign body D)] := ⟨_, rfl⟩
  have H1 : Sep z (pre ++ (T ++ J 0)) W1 := by
    have h1 := H.new (b := w.heap.size) (o := .deferred (some [])) (ext_push w (.deferred (some []))) (Nat.le_refl _) (by show (w.heap.push _)[w.heap.size]? = _; simp)
    have h2 := h1.new (b := w.heap.size + 1) (o := loopRec .ready fn a.tmps t assign body w.heap.size) (ext_push _ (loopRec .ready fn a.tmps t assign body w.heap.size)) (by simp) (by
      show ((w.heap.push _).push _)[w.heap.size + 1]? = _
      rw [Array.getElem?_push, if_pos (by simp)])
    have h3 : Sep z (YtbegkbjigbkljaaGreatDoor.bk (w.heap.size + 1) (loopRec .ready fn a.tmps t assign body w.heap.size) :: YtbegkbjigbkljaaGreatDoor.bk w.heap.size (.deferred (some [])) :: (J 0 ++ pre)) W1 := hW1 ▸ h2
    have h4 := (h3.pick 2 [1, 0] rfl)
    have h5 : Sep z (T ++ (J 0 ++ pre)) W1 := by rw [hT, hD]; exact h4
    exact (Sep.swap (As := T ++ J 0) (Bs := pre) (by rw [List.append_assoc]; exact h5))
  refine ⟨w.heap.size + 1, [mark w.heap.size], W1, { target := .fn (.func gf) lb.toArray, args := #[.func (.yield (w.heap.size + 1)) #[] #[]] }, W1, gf, #[.func (.yield (w.heap.size + 1)) #[] #[]] ++ lb.toArray, W1, ?_, ?_, fun _ _ => trivial, ?_, fun q => (by cases q), ?_⟩
  · rw [← hW1]; exact run_enterLoop_outer _ _ _ _ _
  · simp only [resolve, hF.ev hg]
    simp [go_sem]
  · simp [invoke, go_sem, eg]
  · rw [← hD] at hW1 ⊢
    have back : ∀ {i : Nat} {w : World}, Sep z (pre ++ (T ++ J i)) w → Sep z (YtbegkbjigbkljaaGreatDoor.bk D (.deferred (some [])) :: YtbegkbjigbkljaaGreatDoor.bk (D + 1) (loopRec .ready fn a.tmps t assign body D) :: (J i ++ pre)) w := fun h => by
      have := h.swap
      rw [List.append_assoc, hT] at this
      exact this
    have forth : ∀ (i : Nat) (w : World), Sep z (YtbegkbjigbkljaaGreatDoor.bk D (.deferred (some [])) :: YtbegkbjigbkljaaGreatDoor.bk (D + 1) (loopRec .ready fn a.tmps t assign body D) :: (J i ++ pre)) w → Sep z (pre ++ (T ++ J i)) w := fun i w h => by
      have h' : Sep z (T ++ (J i ++ pre)) w := by rw [hT]; exact h
      exact (Sep.swap (As := T ++ J i) (Bs := pre) (by rw [List.append_assoc]; exact h'))
    have key := hit z (D + 1) (fun i => T ++ J i) ?_ W1 H1
    · refine CallsIn.mono (show CallsIn Fence.wide 0 P gf _ W1 _ from key) ?_
      rintro e w2 ⟨⟨v, rfl⟩, H2⟩
      simp only [List.length_map] at H2
      have H2 := back H2
      refine ⟨none, _, run_endLoop (H2.bk 1 rfl) (by simp), ?_⟩
      refine K D _ ?_ _ ⟨hF.size, by show [mark D] ++ a.defers = _; rw [hF.defers]; rfl, hF.get⟩
      have H3 := H2.setObj 1 (.loop { state := .exhausted, pending := none, fn, tmps := a.tmps, params := #[t], assign, body, defers := D }) rfl
      exact H3.pick 2 [0] rfl
    · intro i v hv w2 H2
      rw [List.getElem?_map] at hv
      obtain ⟨u, hu, rfl⟩ := Option.map_eq_some_iff.1 hv
      have H2 := back H2
      have hy := run_yield (P := P) (args := [u].toArray) (H2.bk 1 rfl) (by simp)
      refine ⟨fn, _, assign, body, hy, ?_⟩
      refine roundIn_of_wpIn (F := FX none) trivial ?_
      have hFr : Fr n [] ((t, u) :: L) { tmps := (((#[t] : Array Tmp).zip [u].toArray).foldl (fun tmps (x : Tmp × Value) => tmps.setIfInBounds x.1 x.2) a.tmps), defers := [] } := by
        have h0 : Fr n [] L { tmps := a.tmps, defers := [] } := ⟨hF.size, rfl, hF.get⟩
        have := h0.put t u ht
        simpa [Act.put] using this
      have hr := hround (some (D + 1)) i u hu w2 _ hFr
      refine wpIn_mono (show assign.wpIn ((FX none).inRound (D + 1)) 0 P _ _ w2 from hr) ?_
      intro e a1 w1 q
      cases e with
      | normal =>
        obtain ⟨rfl, hbody⟩ := q
        refine ⟨_, run_beginRound (H2.bk 1 rfl) rfl, ?_⟩
        have H3 := H2.setObj 1 (loopRec .busy fn a.tmps t assign body D) rfl
        have H4 : Sep z ([YtbegkbjigbkljaaGreatDoor.bk D (.deferred (some [])), YtbegkbjigbkljaaGreatDoor.bk (D + 1) (loopRec .busy fn a.tmps t assign body D)] ++ (J i ++ pre)) _ := H3
        have H5 := H4.swap
        rw [List.append_assoc] at H5
        refine wpIn_mono (show body.wpIn ((FX none).inRound (D + 1)) 0 P _ _ _ from hbody _ _ H5) ?_
        intro e a3 w3 q3
        cases e with
        | normal =>
          have H6 : Sep z (J (i + 1) ++ (pre ++ [YtbegkbjigbkljaaGreatDoor.bk D (.deferred (some [])), YtbegkbjigbkljaaGreatDoor.bk (D + 1) (loopRec .busy fn a.tmps t assign body D)])) w3 := q3
          rw [← List.append_assoc] at H6
          have H7 : Sep z (YtbegkbjigbkljaaGreatDoor.bk D (.deferred (some [])) :: YtbegkbjigbkljaaGreatDoor.bk (D + 1) (loopRec .busy fn a.tmps t assign body D) :: (J (i + 1) ++ pre)) w3 := H6.swap
          refine ⟨_, _, run_endRound none (H7.bk 1 rfl), rfl, forth _ _ ?_⟩
          exact H7.setObj 1 (loopRec .ready fn a.tmps t assign body D) rfl
        | exit id => exact q3.elim
        | ret => exact q3.elim
        | goto l => exact q3.elim
        | panic ch => exact q3.elim
        | outgrown => exact q3.elim
      | exit id => exact q.elim
      | ret => exact q.elim
      | goto l => exact q.elim
      | panic ch => exact q.elim
      | outgrown => exact q.elim
/-! ### A function that holds such a range -/
def DoneM (P : Program) (fn : Func) (R : Value → World → Prop) (a : Act) (w : World) : Prop :=
  (a.defers = [] ∧ ∃ v, (results fn a.tmps).run P w = .ok v w ∧ R v w) ∨ ∃ D w', a.defers = [mark D] ∧ (Instr.takeDeferred D).run P w = .ok [] w' ∧ ∃ v, (results fn a.tmps).run P w' = .ok v w' ∧ R v w'
theorem enterM {P : Program} {f : FuncId} {fn : Func} {c : Code} {args : List Value} {w : World} {R : Value → World → Prop} (hf : P.funcs[f]? = some fn) (hb : fn.body = some c) (n : Nat) (hn : fn.ntmps = n) (hlen : Nat.ble args.length n = true)
    (h : ∀ a, Fr n [] (first 0 args) a → c.wp P (Qp (DoneM P fn R) noX (DoneM P fn R)) a w) : Calls P f args.toArray w (Ret R) := by
  refine (callsIn_wide (n := 0)).1 (callsIn_of_wp_marks hf hb trivial (wpIn_mono ((wpIn_wide (n := 0)).2 (h _ (by rw [hn]; exact Fr.start args n (by simpa using hlen)))) fun e a w q => ?_) rfl)
  have fin : DoneM P fn R a w → LeavesInM Fence.wide 0 P fn a.tmps (Ret R) a.defers .returning w := fun q => by
    rcases q with ⟨hd, v, hr, hR⟩ | ⟨D, w', hd, ht, v, hr, hR⟩
    · rw [hd]; exact ⟨v, hr, hR⟩
    · rw [hd]
      exact ⟨by simp, .inl ⟨D, w', rfl, ht, v, hr, hR⟩⟩
  cases e with
  | normal => exact fin q
  | ret => exact fin q
  | exit id => exact q.elim
  | goto l => exact q.elim
  | panic ch => exact q.elim
  | outgrown => exact q.elim
theorem doneM0 {P : Program} {fn : Func} {R : Value → World → Prop} {n : Nat} {L : List (Nat × Value)} {w : World} {rs : List ResultVar} (hr : fn.results = rs.toArray) (vs : List Value) (hv : ResAll P L w rs vs) {v : Value} (he : oneOf vs = v) (h : R v w) : ∀ a, Fr n [] L a → DoneM P fn R a w := fun a hF => .inl (doneL hr vs hv he h a hF)
theorem doneM1 {P : Program} {fn : Func} {R : Value → World → Prop} {n D : Nat} {L : List (Nat × Value)} {z w : World} {Γ : List Asn} (H : Sep z (YtbegkbjigbkljaaGreatDoor.bk D (.deferred (some [])) :: Γ) w) {rs : List ResultVar} (hr : fn.results = rs.toArray) (vs : List Value) (hv : ∀ w, ResAll P L w rs vs) {v : Value} (he : oneOf vs = v) (h : ∀ w, Sep z Γ w → R v w) : ∀ a, Fr n [mark D] L a → DoneM P fn R a w := fun a hF =>
  .inr ⟨D, w.putObj D (.deferred none), hF.defers, run_takeDeferred (H.bk 0 rfl), v, by rw [← he]; exact run_results hF hr (hv _), h _ ((H.setObj 0 (.deferred none) rfl).pick 1 [] rfl)⟩
end Go.Proofs.YtbegkbjigbkljaaGreatDoor
namespace Go.Proofs.YtbegkbjigbkljaaGreatDoor
open Go.RowKit
def itB (r m clk : Nat) (seen : List Nat) : Asn := bk r (.mapIter (some m) clk seen.toArray clk)
def leftL (l : List IE) (seen : List Nat) : List IE := l.filter fun p => !seen.contains p.2.2
theorem leftL_mem {l : List IE} {seen : List Nat} {p : IE} (h : p ∈ leftL l seen) : p ∈ l ∧ p.2.2 ∉ seen := by
  simpa [leftL] using h
theorem leftL_arr (l : List IE) (seen : List Nat) : (l.map toE).toArray.filter (fun e => !seen.toArray.contains e.born) = ((leftL l seen).map toE).toArray := by
  simp [leftL, List.filter_map, Function.comp_def]; rfl
theorem leftL_less {l : List IE} {seen : List Nat} {p : IE} (h : p ∈ leftL l seen) : (leftL l (seen ++ [p.2.2])).length < (leftL l seen).length := by
  obtain ⟨h1, h2⟩ := leftL_mem h
  unfold leftL
  refine filter_lt _ _ (fun x hx => ?_) p ?_ ?_ l h1
  · simp only [List.contains_eq_mem, List.mem_append, Bool.not_eq_true', decide_eq_false_iff_not, not_or] at hx ⊢; exact hx.1
  · simpa using h2
  · simp
def nxV : Option IE → Value
  | none => .tuple #[.bool false]
  | some p => .tuple #[.bool true, .int .i64 p.1, p.2.1]
def nxS (seen : List Nat) : Option IE → List Nat
  | none => seen
  | some p => seen ++ [p.2.2]
def nxP (l : List IE) (seen : List Nat) : Option IE → Prop
  | none => leftL l seen = []
  | some p => p ∈ leftL l seen
section
variable {P : Program} {C : World → Prop} {o : Oper} {w z : World} {Γ : List Asn} {n : Nat} {ds : List Deferred} {L : List (Nat × Value)} {x y : Operand}
theorem run_next_in {r m clk : Nat} {seen : List Nat} {l : List IE} (hr : w.heap[r]? = some (.mapIter (some m) clk seen.toArray clk)) (hm : w.heap[m]? = some (.map (l.map toE).toArray clk)) (hold : ∀ p ∈ l, p.2.2 < clk) (ty : TypeId) :
    ∃ q : Option IE, nxP l seen q ∧ ∃ w1 : World, (w1 = w ∨ w1 = w.drew) ∧ (Instr.next (.pointer (some ⟨r, 0, none⟩)) false ty).run P w = .ok (nxV q) { w1 with heap := w1.heap.setIfInBounds r (.mapIter (some m) clk (nxS seen q).toArray clk) } := by
  have hlt : r < w.heap.size := (Array.getElem?_eq_some_iff.1 hr).1
  have hE : ∀ x ∈ (l.map toE).toArray.toList, x.born < clk := fun x hx => by
    simp only [List.mem_map] at hx
    obtain ⟨p, hp, rfl⟩ := hx
    exact hold p hp
  simp only [Instr.next, getObj, Sem.run_bind, Sem.run, hr, hm, Result.andThen, next_test_false seen.toArray _ clk clk hE (Nat.le_refl _), Bool.false_eq_true, if_false]
  rw [leftL_arr]
  have hmem : ∀ p ∈ leftL l seen, p.2.2 < clk := fun p hp => hold p (leftL_mem hp).1
  generalize hG : leftL l seen = G at hmem
  have e1 : ((G.map toE).toArray).filter (fun x => decide (x.born < clk)) = (G.map toE).toArray := Array.filter_eq_self.2 (fun x hx => by
    simp only [List.mem_toArray, List.mem_map] at hx
    obtain ⟨p, hp, rfl⟩ := hx
    exact decide_eq_true (hmem p hp))
  have e2 : ((G.map toE).toArray).filter (fun x => decide (x.born ≥ clk)) = #[] := by
    rw [Array.filter_eq_empty_iff]
    intro x hx
    simp only [List.mem_toArray, List.mem_map] at hx
    obtain ⟨p, hp, rfl⟩ := hx
    have := hmem p hp
    simp [toE]; omega
  simp only [e1, e2, Array.append_empty]
  have same : ∀ u : World, u.heap = w.heap → ({ u with heap := u.heap.setIfInBounds r (.mapIter (some m) clk seen.toArray clk) } : World) = u := fun u hu => by
    have : u.heap.setIfInBounds r (.mapIter (some m) clk seen.toArray clk) = u.heap := by
      rw [hu]; apply Array.ext_getElem?; intro k
      rw [Array.getElem?_setIfInBounds]
      split
      · rename_i e; subst e; exact hr.symm
      · rfl
    rw [this]
  cases G with
  | nil =>
    refine ⟨none, hG, w, .inl rfl, ?_⟩
    show _ = Result.ok _ ({ w with heap := w.heap.setIfInBounds r (.mapIter (some m) clk seen.toArray clk) } : World)
    rw [same w rfl]
    simp [choose, Sem.run, Question.forced, nxV]
  | cons p0 G =>
    have hne : ((((p0 :: G).map toE).toArray).isEmpty) = false := by simp [Array.isEmpty]
    simp only [hne, Bool.false_eq_true, if_false, Array.empty_append, Array.size_map]
    generalize hK : (p0 :: G) = K at hG
    have hKl : 0 < K.length := by rw [← hK]; simp
    have hch : ∃ (j : Nat) (w1 : World), j < K.length ∧ (w1 = w ∨ w1 = w.drew) ∧ (choose (Question.mapNext ((K.map toE).toArray).size)).run P w = .ok j w1 := by
      by_cases hf : ((K.map toE).toArray).size ≤ 1
      · exact ⟨0, w, by omega, .inl rfl, by simp only [choose, Sem.run, Question.forced, hf, decide_true, if_true]⟩
      · rw [List.size_toArray, List.length_map] at hf ⊢
        exact ⟨(Question.mapNext K.length).cut (w.tape w.drawn (Question.mapNext K.length)), w.drew, Nat.mod_lt _ hKl, .inr rfl, by
          simp only [choose, Sem.run, Question.forced, decide_eq_true_eq, hf, if_false, Bool.false_eq_true]; rfl⟩
    obtain ⟨j, w1, hj, hal, hrun⟩ := hch
    have hw1 : w1.heap = w.heap := by rcases hal with rfl | rfl <;> rfl
    refine ⟨some K[j], by show K[j] ∈ leftL l seen; rw [hG]; exact List.getElem_mem hj, w1, hal, ?_⟩
    have hset : ∀ o' : Obj, (setObj r o').run P w1 = .ok () { w1 with heap := w1.heap.setIfInBounds r o' } := fun o' => by
      simp [setObj, Sem.run, hw1, hr]
    have hjg : ((K.map toE).toArray)[j]? = some (toE K[j]) := by simp [hj]
    simp only [hrun, Array.getElem?_map, hjg, Option.map_some, Sem.run_bind, hset, Result.andThen]
    simp [nxV, nxS, toE, Sem.run]
theorem n_range (j : Nat) {t e : TypeId} {m clk : Nat} {l : List IE} (H : Sep z Γ w) (hj : Γ[j]? = some (mapB m l clk)) (ho : o.op = .range t x) (ht : mapInt P t = some e) (hx : ev L x = some (.map (some m))) :
    GoesL P n ds L o w (fun v w' => ∃ r, v = .pointer (some ⟨r, 0, none⟩) ∧ Sep z (itB r m clk [] :: Γ) w') := fun a hF => by
  obtain ⟨kt, ik, h1, h2⟩ := mapInt_ok ht
  refine ⟨_, _, ?_, w.heap.size, rfl, H.new (ext_push w (.mapIter (some m) clk #[] clk)) (Nat.le_refl _) (by show (w.heap.push _)[w.heap.size]? = _; simp)⟩
  simp only [execOp, ho, hF.ev hx, Sem.run_bind, run_range_map w t kt e m _ clk h1 (H.bk j hj), Result.andThen_ok, Sem.run_pure]
  rfl
theorem n_next (i j : Nat) {r m clk : Nat} {l : List IE} {seen : List Nat} (H : Sep z Γ w) (hi : Γ[i]? = some (itB r m clk seen)) (hj : Γ[j]? = some (mapB m l clk)) (ho : o.op = .next x false) (hx : ev L x = some (.pointer (some ⟨r, 0, none⟩))) (hold : ∀ p ∈ l, p.2.2 < clk) :
    GoesL P n ds L o w (fun v w' => ∃ q : Option IE, v = nxV q ∧ nxP l seen q ∧ Sep z (Γ.set i (itB r m clk (nxS seen q))) w') := fun a hF => by
  have hr := H.bk i hi
  obtain ⟨q, hq, w1, hw1, hrun⟩ := run_next_in (P := P) hr (H.bk j hj) hold o.type
  have hlt : r < w.heap.size := (Array.getElem?_eq_some_iff.1 hr).1
  have hw : w1.heap = w.heap ∧ w1.os = w.os ∧ w1.tape = w.tape ∧ w1.output = w.output := by rcases hw1 with rfl | rfl <;> exact ⟨rfl, rfl, rfl, rfl⟩
  refine ⟨_, { w1 with heap := w1.heap.setIfInBounds r (.mapIter (some m) clk (nxS seen q).toArray clk) }, ?_, q, rfl, hq, H.write i hi hw.2.1 hw.2.2.1 hw.2.2.2 (o' := .mapIter (some m) clk (nxS seen q).toArray clk) (by show (w1.heap.setIfInBounds r _)[r]? = _; rw [hw.1]; simp [hlt]) (fun k hk => by show (w1.heap.setIfInBounds r _)[k]? = _; rw [hw.1]; rw [Array.getElem?_setIfInBounds_ne (Ne.symm hk)])⟩
  simp only [execOp, ho, hF.ev hx, Sem.run_bind, hrun, Result.andThen_ok, Sem.run_pure]
theorem d_nx0 {q : Option IE} (ho : o.op = .extract x 0) (hx : ev L x = some (nxV q)) : DoesL P C n ds L o (.bool q.isSome) := by
  cases q with
  | none => exact d_extract ho hx rfl
  | some p => exact d_extract ho hx rfl
theorem d_entry {r m clk : Nat} {l : List IE} {seen : List Nat} {p : IE} (ho : o.op = .entry x) (hx : ev L x = some (.pointer (some ⟨r, 0, none⟩))) (hc : ∀ w, C w → w.heap[r]? = some (.mapIter (some m) clk (seen ++ [p.2.2]).toArray clk) ∧ w.heap[m]? = some (.map (l.map toE).toArray clk)) (hp : p ∈ l) (hn : (l.map (·.2.2)).Nodup) :
    DoesL P C n ds L o (.tuple #[.int .i64 p.1, p.2.1]) := fun a hF w hw => by
  obtain ⟨hr, hm⟩ := hc w hw
  have hf : ((l.map toE).toArray).find? (fun x => x.born == p.2.2) = some (toE p) := by
    rw [← Array.find?_toList]
    exact find_born (toE p) _ (by simpa [Function.comp_def, toE] using hn) (List.mem_map_of_mem hp)
  simp only [execOp, ho, hF.ev hx, Instr.entry, getObj, Sem.run_bind, Sem.run, hr, hm, Result.andThen, ← List.push_toArray, Array.back?_push, bne_self_eq_false, Bool.false_eq_true, if_false, hf]
  rfl
theorem n_clear (i : Nat) {t e : TypeId} {m clk : Nat} {l : List IE} (H : Sep z Γ w) (hi : Γ[i]? = some (mapB m l clk)) (ho : o.op = .call { callee := .builtin .clear, args := #[x], argTypes := #[t] }) (ht : mapInt P t = some e) (hx : ev L x = some (.map (some m))) :
    GoesL P n ds L o w (fun v w' => v = .tuple #[] ∧ Sep z (Γ.set i (mapB m [] clk)) w') := fun a hF => by
  obtain ⟨kt, ik, h1, h2⟩ := mapInt_ok ht
  have hmb : w.heap[m]? = some (.map (l.map toE).toArray clk) := H.bk i hi
  have hlt : m < w.heap.size := (Array.getElem?_eq_some_iff.1 hmb).1
  have main : (Builtin.clear_ #[t] o.type #[.map (some m)]).run P w = .ok (.tuple #[]) { w with heap := w.heap.setIfInBounds m (.map #[] clk) } := by
    simp [Builtin.clear_, run_underlying h1, getObj, setObj, Sem.run, hmb]
  refine ⟨_, { w with heap := w.heap.setIfInBounds m (.map #[] clk) }, ?_, rfl, H.write i hi rfl rfl rfl (by show (w.heap.setIfInBounds m (.map #[] clk))[m]? = _; simp [hlt]) (fun q hq => by show (w.heap.setIfInBounds m _)[q]? = _; rw [Array.getElem?_setIfInBounds_ne (Ne.symm hq)])⟩
  simp only [execOp, ho, resolve, invoke, builtin, Sem.run_bind, Sem.run_pure, Result.andThen_ok, List.map_toArray, List.map_cons, List.map_nil, hF.ev hx, main]
end
def ItG (P : Program) (gf : FuncId) (lb : List Value) (pre : List Asn) {σ : Type} (stp : σ → Value → σ → Prop) (s0 : σ) (fin : σ → Prop) : Prop :=
  ∀ (z : World) (l : Nat) (J : σ → List Asn), (∀ s v s' F, stp s v s' → ∀ w, Sep z (pre ++ (F ++ J s)) w → YieldAt (FX none) 0 P l #[v] w (fun e w' => e = .returned (.bool true) ∧ Sep z (pre ++ (F ++ J s')) w')) →
    ∀ w, Sep z (pre ++ J s0) w → CallsIn (FX none) 0 P gf (#[Value.func (.yield l) #[] #[]] ++ lb.toArray) w (fun e w' => (∃ v, e = .returned v) ∧ ∃ s, fin s ∧ Sep z (pre ++ J s) w')
theorem k_rangeG {P : Program} {N R : Act → World → Prop} {X : Nat → Act → World → Prop} {z w : World} {n : Nat} {ds : List Deferred} {L : List (Nat × Value)} {g : Operand} {t : Nat} {assign body : Code} {gf : FuncId} {lb : List Value} {pre : List Asn} {σ : Type} {stp : σ → Value → σ → Prop} {s0 : σ} {fin : σ → Prop}
    (J : σ → List Asn) (hg : ev L g = some (.func (.func gf) #[] lb.toArray)) (eg : ∀ args w, (callFunc gf args).run P w = .ok (.enter gf args) w) (ht : Nat.blt t n = true) (hit : ItG P gf lb pre stp s0 fin) (H : Sep z (J s0 ++ pre) w)
    (hround : ∀ (ro : Option Nat) (i : σ) (v : Value) (i' : σ), stp i v i' → ∀ w a, Fr n [] ((t, v) :: L) a →
      RW P ro assign (Qp (fun a1 w1 => w1 = w ∧ ∀ (F : List Asn) (w : World), Sep z (J i ++ F) w → RW P ro body (Qp (fun _ w3 => Sep z (J i' ++ F) w3) noX (fun _ _ => False)) a1 w) noX (fun _ _ => False)) a w)
    (K : ∀ D w' s, fin s → Sep z (YtbegkbjigbkljaaGreatDoor.bk D (.deferred (some [])) :: (J s ++ pre)) w' → ∀ a, Fr n (mark D :: ds) L a → N a w') :
    ∀ a, Fr n ds L a → (Code.rangeFunc g #[t] assign body).wp P (Qp N X R) a w := by
  intro a hF
  refine (wpIn_wide (n := 0)).1 ?_
  refine wpIn_rangeFunc ?_
  intro fn _
  have hro : Fence.wide.round = none := rfl
  rw [hro]
  obtain ⟨W1, hW1⟩ : ∃ W1, (w.alloc (.deferred (some []))).alloc (loopRec .ready fn a.tmps t assign body w.heap.size) = W1 := ⟨_, rfl⟩
  obtain ⟨D, hD⟩ : ∃ D, D = w.heap.size := ⟨_, rfl⟩
  obtain ⟨T, hT⟩ : ∃ T : List Asn, T = [YtbegkbjigbkljaaGreatDoor.bk D (.deferred (some [])), YtbegkbjigbkljaaGreatDoor.bk (D + 1) (loopRec .ready fn a.tmps t assign body D)] := ⟨_, rfl⟩
  have H1 : Sep z (pre ++ (T ++ J s0)) W1 := by
    have h1 := H.new (b := w.heap.size) (o := .deferred (some [])) (ext_push w (.deferred (some []))) (Nat.le_refl _) (by show (w.heap.push _)[w.heap.size]? = _; simp)
    have h2 := h1.new (b := w.heap.size + 1) (o := loopRec .ready fn a.tmps t assign body w.heap.size) (ext_push _ (loopRec .ready fn a.tmps t assign body w.heap.size)) (by simp) (by
      show ((w.heap.push _).push _)[w.heap.size + 1]? = _
      rw [Array.getElem?_push, if_pos (by simp)])
    have h3 : Sep z (YtbegkbjigbkljaaGreatDoor.bk (w.heap.size + 1) (loopRec .ready fn a.tmps t assign body w.heap.size) :: YtbegkbjigbkljaaGreatDoor.bk w.heap.size (.deferred (some [])) :: (J s0 ++ pre)) W1 := hW1 ▸ h2
    have h4 := (h3.pick 2 [1, 0] rfl)
    have h5 : Sep z (T ++ (J s0 ++ pre)) W1 := by rw [hT, hD]; exact h4
    exact (Sep.swap (As := T ++ J s0) (Bs := pre) (by rw [List.append_assoc]; exact h5))
  refine ⟨w.heap.size + 1, [mark w.heap.size], W1, { target := .fn (.func gf) lb.toArray, args := #[.func (.yield (w.heap.size + 1)) #[] #[]] }, W1, gf, #[.func (.yield (w.heap.size + 1)) #[] #[]] ++ lb.toArray, W1, ?_, ?_, fun _ _ => trivial, ?_, fun q => (by cases q), ?_⟩
  · rw [← hW1]; exact run_enterLoop_outer _ _ _ _ _
  · simp only [resolve, hF.ev hg]
    simp [go_sem]
  · simp [invoke, go_sem, eg]
  · rw [← hD] at hW1 ⊢
    have back : ∀ {G : List Asn} {i : σ} {w : World}, Sep z (G ++ (T ++ J i)) w → Sep z (YtbegkbjigbkljaaGreatDoor.bk D (.deferred (some [])) :: YtbegkbjigbkljaaGreatDoor.bk (D + 1) (loopRec .ready fn a.tmps t assign body D) :: (J i ++ G)) w := fun h => by
      have := h.swap
      rw [List.append_assoc, hT] at this
      exact this
    have forth : ∀ (G : List Asn) (i : σ) (w : World), Sep z (YtbegkbjigbkljaaGreatDoor.bk D (.deferred (some [])) :: YtbegkbjigbkljaaGreatDoor.bk (D + 1) (loopRec .ready fn a.tmps t assign body D) :: (J i ++ G)) w → Sep z (G ++ (T ++ J i)) w := fun G i w h => by
      have h' : Sep z (T ++ (J i ++ G)) w := by rw [hT]; exact h
      exact (Sep.swap (As := T ++ J i) (Bs := G) (by rw [List.append_assoc]; exact h'))
    have key := hit z (D + 1) (fun i => T ++ J i) ?_ W1 H1
    · refine CallsIn.mono (show CallsIn Fence.wide 0 P gf _ W1 _ from key) ?_
      rintro e w2 ⟨⟨v, rfl⟩, s, hs, H2⟩
      have H2 := back H2
      refine ⟨none, _, run_endLoop (H2.bk 1 rfl) (by simp), ?_⟩
      refine K D _ s hs ?_ _ ⟨hF.size, by show [mark D] ++ a.defers = _; rw [hF.defers]; rfl, hF.get⟩
      have H3 := H2.setObj 1 (.loop { state := .exhausted, pending := none, fn, tmps := a.tmps, params := #[t], assign, body, defers := D }) rfl
      exact H3.pick 2 [0] rfl
    · intro i u i' F hu w2 H2
      rw [← List.append_assoc] at H2
      have H2 := back H2
      have hy := run_yield (P := P) (args := [u].toArray) (H2.bk 1 rfl) (by simp)
      refine ⟨fn, _, assign, body, hy, ?_⟩
      refine roundIn_of_wpIn (F := FX none) trivial ?_
      have hFr : Fr n [] ((t, u) :: L) { tmps := (((#[t] : Array Tmp).zip [u].toArray).foldl (fun tmps (x : Tmp × Value) => tmps.setIfInBounds x.1 x.2) a.tmps), defers := [] } := by
        have h0 : Fr n [] L { tmps := a.tmps, defers := [] } := ⟨hF.size, rfl, hF.get⟩
        have := h0.put t u ht
        simpa [Act.put] using this
      have hr := hround (some (D + 1)) i u i' hu w2 _ hFr
      refine wpIn_mono (show assign.wpIn ((FX none).inRound (D + 1)) 0 P _ _ w2 from hr) ?_
      intro e a1 w1 q
      cases e with
      | normal =>
        obtain ⟨rfl, hbody⟩ := q
        refine ⟨_, run_beginRound (H2.bk 1 rfl) rfl, ?_⟩
        have H3 := H2.setObj 1 (loopRec .busy fn a.tmps t assign body D) rfl
        have H4 : Sep z ([YtbegkbjigbkljaaGreatDoor.bk D (.deferred (some [])), YtbegkbjigbkljaaGreatDoor.bk (D + 1) (loopRec .busy fn a.tmps t assign body D)] ++ (J i ++ (pre ++ F))) _ := H3
        have H5 := H4.swap
        rw [List.append_assoc] at H5
        refine wpIn_mono (show body.wpIn ((FX none).inRound (D + 1)) 0 P _ _ _ from hbody _ _ H5) ?_
        intro e a3 w3 q3
        cases e with
        | normal =>
          have H6 : Sep z (J i' ++ ((pre ++ F) ++ [YtbegkbjigbkljaaGreatDoor.bk D (.deferred (some [])), YtbegkbjigbkljaaGreatDoor.bk (D + 1) (loopRec .busy fn a.tmps t assign body D)])) w3 := q3
          rw [← List.append_assoc] at H6
          have H7 : Sep z (YtbegkbjigbkljaaGreatDoor.bk D (.deferred (some [])) :: YtbegkbjigbkljaaGreatDoor.bk (D + 1) (loopRec .busy fn a.tmps t assign body D) :: (J i' ++ (pre ++ F))) w3 := H6.swap
          refine ⟨_, _, run_endRound none (H7.bk 1 rfl), rfl, ?_⟩
          rw [← List.append_assoc]; refine forth _ _ _ ?_
          exact H7.setObj 1 (loopRec .ready fn a.tmps t assign body D) rfl
        | exit id => exact q3.elim
        | ret => exact q3.elim
        | goto l => exact q3.elim
        | panic ch => exact q3.elim
        | outgrown => exact q3.elim
      | exit id => exact q.elim
      | ret => exact q.elim
      | goto l => exact q.elim
      | panic ch => exact q.elim
      | outgrown => exact q.elim
end Go.Proofs.YtbegkbjigbkljaaGreatDoor
namespace Go.Proofs.YtbegkbjigbkljaaGreatDoor
open Go.RowKit
section
variable {P : Program} {C : World → Prop} {o : Oper} {a : Act} {w z : World} {Γ : List Asn} {n : Nat} {ds : List Deferred} {L : List (Nat × Value)} {v : Value} {x y : Operand} {xt yt : TypeId} {f : FuncId} {args : List Operand} {vs : List Value} {tys : Array TypeId}
theorem run_ext {w' : World} (hF : Fr n ds L a) (ho : o.op = .call { callee := .value (.func f), args := args.toArray, argTypes := tys }) (hargs : evs L args = some vs) (hr : (callFunc f vs.toArray).run P w = .ok (.value v) w') : (execOp a.eval o).run P w = .ok (.value v) w' := by
  unfold execOp
  have e := hF.evs hargs
  simp only [ho, resolve, Act.eval, Deferred.ofValue, invoke]
  simp only [go_sem, List.map_toArray, e, List.nil_append, List.append_nil, hr]
  simpa using hr
theorem d_ext (ho : o.op = .call { callee := .value (.func f), args := args.toArray, argTypes := tys }) (hargs : evs L args = some vs) (hr : ∀ w, C w → (callFunc f vs.toArray).run P w = .ok (.value v) w) : DoesL P C n ds L o v := fun a hF w hw => run_ext hF ho hargs (hr w hw)
theorem n_ext (i : Nat) {b p : Nat} {cs : List Value} {ty : TypeId} {u u0 : Value} (H : Sep z Γ w) (hi : Γ[i]? = some (blk b cs ty)) (hp : cs[p]? = some u0) (ho : o.op = .call { callee := .value (.func f), args := args.toArray, argTypes := tys }) (hargs : evs L args = some vs) (hu : u.oneCell' = true)
    (hr : w.cell? ⟨b, p, none⟩ = some u0 → w.frozen? ⟨b, p, none⟩ = false → (callFunc f vs.toArray).run P w = .ok (.value v) (w.setCell ⟨b, p, none⟩ u)) {out : List Value} (hout : cs.set p u = out) : GoesL P n ds L o w (fun v' w' => v' = v ∧ Sep z (Γ.set i (blk b out ty)) w') := fun a hF => by
  have hB := H.blk i hi
  refine ⟨v, _, run_ext hF ho hargs (hr (hB.cel p hp) (hB.free p)), rfl, ?_⟩
  subst hout
  have hlt := hB.lt
  have hb' : w.heap[b]? = some (.cells cs.toArray ty (0, 0)) := hB
  refine H.write i hi rfl rfl rfl ?_ (fun q hq => ?_)
  · simp only [World.setCell]
    rw [Array.getElem?_modify, if_pos rfl, hb']
    simp
  · simp [World.setCell, Array.getElem?_modify, Ne.symm hq]
def unsafeTo (P : Program) (s d : TypeId) : Bool := match P.underlying s, P.underlying d with
  | some (.pointer t), some .unsafePointer => (match P.info? t with | some i => !(decide (i.size = 0)) | none => false)
  | _, _ => false
theorem d_unsafe {dt : TypeId} {b p : Nat} {u : Value} (ho : o.op = .convert xt dt x) (h1 : unsafeTo P xt dt = true) (hx : ev L x = some (.pointer (some ⟨b, p, none⟩))) (hc : ∀ w, C w → Cel b p u w) : DoesL P C n ds L o (.pointer (some ⟨b, p, none⟩)) := fun a hF w hw => by
  unfold unsafeTo at h1
  split at h1
  · rename_i t hs hd
    split at h1
    · rename_i i hi
      have hsz : (P.info? t).map (fun i => decide (i.size = 0)) = some false := by rw [hi]; simpa using h1
      have := run_convert_to_unsafe (P := P) hs hd hsz (hc w hw)
      simp only [execOp, ho, hF.ev hx, Sem.run_bind, this, Result.andThen_ok, Sem.run_pure]
    · cases h1
  · cases h1
end
/-! ### Deferred calls -/
def CnD (P : Program) (f : FuncId) (args : List Value) (pre : List Asn) (post : Value → List Asn → Prop) : Prop :=
  ∀ z R u w, Sep z (pre ++ R) w → CallsD P f args.toArray u w (fun e u' w' => u' = u ∧ Ret (fun v w' => ∃ Γ', post v Γ' ∧ Sep z (Γ' ++ R) w') e w')
theorem enterD {P : Program} {f : FuncId} {fn : Func} {c : Code} {args : List Value} {u : FrameMode} {w : World} {R : Value → World → Prop} (hf : P.funcs[f]? = some fn) (hb : fn.body = some c) (n : Nat) (hn : fn.ntmps = n) (hlen : Nat.ble args.length n = true)
    (h : ∀ a, Fr n [] (first 0 args) a → c.wp P (Qp (Done P fn R) noX (Done P fn R)) a w) : CallsD P f args.toArray u w (fun e u' w' => u' = u ∧ Ret R e w') := by
  refine callsD_of_wp hf hb (wp_mono (h _ (by rw [hn]; exact Fr.start args n (by simpa using hlen))) fun e a w q => ?_)
  cases e with
  | normal => obtain ⟨hd, v, hr, hR⟩ := q; exact ⟨hd, v, hr, hR⟩
  | ret => obtain ⟨hd, v, hr, hR⟩ := q; exact ⟨hd, v, hr, hR⟩
  | exit id => exact q.elim
  | goto l => exact q.elim
  | panic ch => exact q.elim
  | outgrown => exact q.elim
def DoneL (P : Program) (fn : Func) (R : Value → World → Prop) (a : Act) (w : World) : Prop := Leaves P fn a.tmps (Ret R) a.defers .returning w
theorem enterL {P : Program} {f : FuncId} {fn : Func} {c : Code} {args : List Value} {w : World} {R : Value → World → Prop} (hf : P.funcs[f]? = some fn) (hb : fn.body = some c) (n : Nat) (hn : fn.ntmps = n) (hlen : Nat.ble args.length n = true)
    (h : ∀ a, Fr n [] (first 0 args) a → c.wp P (Qp (DoneL P fn R) noX (DoneL P fn R)) a w) : Calls P f args.toArray w (Ret R) := by
  refine calls_of_wp_defers hf hb (wp_mono (h _ (by rw [hn]; exact Fr.start args n (by simpa using hlen))) fun e a w q => ?_)
  cases e with
  | normal => exact q
  | ret => exact q
  | exit id => exact q.elim
  | goto l => exact q.elim
  | panic ch => exact q.elim
  | outgrown => exact q.elim
def dfr (f : FuncId) (vs : List Value) : Deferred := { target := .fn (.func f) #[], args := vs.toArray }
theorem leaves_C {P : Program} {fn : Func} {tmps : Array Value} {Rr : Ending → World → Prop} {ds : List Deferred} {z w : World} {Γ pre R' : List Asn} {post : Value → List Asn → Prop} {f : FuncId} {vs : List Value} (hr : ∀ w, (callFunc f vs.toArray).run P w = .ok (.enter f vs.toArray) w)
    (hc : CnD P f vs pre post) (H : Sep z Γ w) (k : Nat) (is : List Nat) (hok : okIs k is = true) (e : picks Γ is ++ Γ.drop k = pre ++ R') (K : ∀ v w' Γ', post v Γ' → Sep z (Γ' ++ R') w' → Leaves P fn tmps Rr ds .returning w') : Leaves P fn tmps Rr (dfr f vs :: ds) .returning w := by
  refine leaves_cons (f := f) (args := vs.toArray) (by simp) (by simp [invoke, go_sem, hr]) ?_
  refine CallsD.mono (hc z R' .returning w (H.perm k is hok e)) fun e u' w' q => ?_
  obtain ⟨rfl, q⟩ := q
  cases e with
  | returned v => obtain ⟨Γ', q1, q2⟩ := q; exact K v w' Γ' q1 q2
  | panicked ch => exact q.elim
  | outgrown => exact q.elim
theorem doneN {P : Program} {fn : Func} {R : Value → World → Prop} {tmps : Array Value} {w : World} (hr : fn.results = #[]) (h : R (.tuple #[]) w) : Leaves P fn tmps (Ret R) [] .returning w := ⟨.tuple #[], by simp [results, hr, go_sem], h⟩
section
variable {P : Program} {ops : List Oper} {Q : Exit → Act → World → Prop} {w : World} {rest : List Oper} {o : Oper} {n : Nat} {ds : List Deferred} {L : List (Nat × Value)} {f : FuncId} {args : List Operand} {vs : List Value} {tys : Array TypeId}
theorem s_defer (hw : wantL ops L o.guard = true) (hd : o.dst = none) (ho : o.op = .defer { callee := .value (.func f), args := args.toArray, argTypes := tys }) (hargs : evs L args = some vs)
    (K : ∀ a', Fr n (dfr f vs :: ds) L a' → wpList P ops.toArray Q rest a' w) : ∀ a, Fr n ds L a → wpList P ops.toArray Q (o :: rest) a w := by
  intro a hF
  unfold wpList
  rw [if_pos (wantL_ok hF hw)]
  left
  have e := hF.evs hargs
  have hrun : (execOp a.eval o).run P w = .ok (.defer (dfr f vs)) w := by
    unfold execOp
    simp only [ho, resolve, Act.eval, Deferred.ofValue, List.map_toArray, e]
    simp [go_sem, dfr]
  unfold Oper.wp
  rw [hrun, Oper.upon_defer, hd]
  exact K _ ⟨hF.size, by show dfr f vs :: a.defers = _; rw [hF.defers], hF.get⟩
theorem s_callB {z : World} {Γ pre R' : List Asn} {post : Value → List Asn → Prop} {d : Nat} {x : Operand} {bs : List Value} (hw : wantL ops L o.guard = true) (hd : o.dst = some d) (hlt : Nat.blt d n = true) (ho : o.op = .call { callee := .value x, args := args.toArray, argTypes := tys }) (hx : ev L x = some (.func (.func f) bs.toArray #[])) (hargs : evs L args = some vs) (hr : ∀ w, (callFunc f (bs ++ vs).toArray).run P w = .ok (.enter f (bs ++ vs).toArray) w)
    (hc : Cn P f (bs ++ vs) pre post) (H : Sep z Γ w) (k : Nat) (is : List Nat) (hok : okIs k is = true) (e : picks Γ is ++ Γ.drop k = pre ++ R')
    (K : ∀ v w' Γ', post v Γ' → Sep z (Γ' ++ R') w' → ∀ a', Fr n ds ((d, v) :: L) a' → wpList P ops.toArray Q rest a' w') : ∀ a, Fr n ds L a → wpList P ops.toArray Q (o :: rest) a w := by
  intro a hF
  unfold wpList
  rw [if_pos (wantL_ok hF hw)]
  left
  have e1 := hF.evs hargs
  have e2 := hF.ev hx
  have hrun : (execOp a.eval o).run P w = .ok (.enter f (bs ++ vs).toArray) w := by
    unfold execOp
    simp only [ho, resolve, e2, Deferred.ofValue, invoke]
    simp only [go_sem, List.map_toArray, e1, List.append_nil]
    simpa using hr w
  unfold Oper.wp
  rw [hrun, Oper.upon_enter]
  exact Calls.mono (hc.at H k is hok e) fun e w' q => by
    cases e with
    | returned v => obtain ⟨Γ', q1, q2⟩ := q; simp only [hd]; exact K v w' Γ' q1 q2 _ (hF.put d v hlt)
    | panicked c => exact q.elim
    | outgrown => exact q.elim
end
end Go.Proofs.YtbegkbjigbkljaaGreatDoor
namespace Go.Proofs.YtbegkbjigbkljaaGreatDoor
open Go.RowKit
section
variable {P : Program} {C : World → Prop} {o : Oper} {w z : World} {Γ : List Asn} {n : Nat} {ds : List Deferred} {L : List (Nat × Value)} {x y : Operand}
theorem d_lookup2 {t e : TypeId} {m clk : Nat} {l : List IE} {k : Int} {zv : Value} (ho : o.op = .lookup t x y true) (ht : mapInt P t = some e) (hz : (P.info? e).bind (·.zero) = some zv) (hx : ev L x = some (.map (some m))) (hy : ev L y = some (.int .i64 k))
    (hm : ∀ w, C w → w.heap[m]? = some (.map (l.map toE).toArray clk)) : DoesL P C n ds L o (.tuple #[(getM l k).getD zv, .bool (hasM l k)]) := fun a hF w hw => by
  obtain ⟨kt, ik, h1, h2⟩ := mapInt_ok ht
  have hz' : (zeroValue e).run P w = .ok zv w := by
    cases hi : P.info? e with
    | none => rw [hi] at hz; cases hz
    | some i => rw [hi] at hz; simp [zeroValue, typeInfo, hi, show i.zero = some zv from hz, go_sem]
  have hg : (getObj m).run P w = .ok (.map (l.map toE).toArray clk) w := by simp [getObj, Sem.run, hm w hw]
  have hfg := fnd_get l k 0
  simp only [execOp, ho, hF.ev hx, hF.ev hy, Instr.lookup, Sem.run_bind, run_underlying h1, Result.andThen_ok, hg, Sem.run_pure, run_checkKey h2, List.toList_toArray, run_findKey h2]
  cases hf : fnd l k 0 with
  | none => rw [hf] at hfg; simp [hz', hasM, ← hfg, Sem.run_bind, Sem.run_pure]
  | some q => rw [hf] at hfg; simp [hasM, ← hfg, Sem.run_pure]
theorem d_lookup2N {t e : TypeId} {k : Int} {zv : Value} (ho : o.op = .lookup t x y true) (ht : mapInt P t = some e) (hz : (P.info? e).bind (·.zero) = some zv) (hx : ev L x = some (.map none)) (hy : ev L y = some (.int .i64 k)) : DoesL P C n ds L o (.tuple #[zv, .bool false]) := fun a hF w hw => by
  obtain ⟨kt, ik, h1, h2⟩ := mapInt_ok ht
  have hz' : (zeroValue e).run P w = .ok zv w := by
    cases hi : P.info? e with
    | none => rw [hi] at hz; cases hz
    | some i => rw [hi] at hz; simp [zeroValue, typeInfo, hi, show i.zero = some zv from hz, go_sem]
  have hfk := run_findKey (P := P) h2 [] k w
  simp only [List.map_nil, fnd] at hfk
  simp only [execOp, ho, hF.ev hx, hF.ev hy, Instr.lookup, Sem.run_bind, run_underlying h1, Result.andThen_ok, Sem.run_pure, run_checkKey h2, hfk]
  simp [hz', Sem.run_bind, Sem.run_pure]
theorem d_lenM {t e : TypeId} {m clk : Nat} {l : List IE} (ho : o.op = .call { callee := .builtin .len, args := #[x], argTypes := #[t] }) (ht : mapInt P t = some e) (hx : ev L x = some (.map (some m))) (hm : ∀ w, C w → w.heap[m]? = some (.map (l.map toE).toArray clk)) : DoesL P C n ds L o (.int .i64 l.length) := fun a hF w hw => by
  obtain ⟨kt, ik, h1, h2⟩ := mapInt_ok ht
  simp only [execOp, ho, hF.ev hx, resolve, List.map_toArray, List.map_cons, List.map_nil]
  simp [invoke, builtin, Builtin.len_, run_underlying h1, goInt, go_sem, getObj, Sem.run, hm w hw]
theorem d_indexW {t : TypeId} {vs : List Value} {i : Int} {k : IntKind} {j m : Nat} {u : Value} (ho : o.op = .index t x y) (ht : arrFlat P t = some m) (hx : ev L x = some (.agg vs.toArray)) (hm : vs.length = m) (hy : ev L y = some (.int k i)) (hij : i = j) (hv : vs[j]? = some u) : DoesL P C n ds L o u := fun a hF w _ => by
  obtain ⟨e, i0, ht, hi, hz, hf⟩ := arrFlat_ok ht
  subst hij
  have hj : j < vs.length := (List.getElem?_eq_some_iff.1 hv).1
  have h1 : (0 : Int) ≤ (j : Int) ∧ (j : Int) < (m : Int) := by omega
  have hpart : (part e vs.toArray (j * 1)).run P w = .ok u w := by
    simp only [part, Sem.run_bind, run_flat hf, Result.andThen_ok, if_false, Bool.false_eq_true, Nat.mul_one, List.getElem?_toArray, hv, Sem.run_pure]
  have hso : (sizeOf e).run P w = .ok 1 w := by simp [sizeOf, typeInfo, hi, hz, go_sem]
  simp only [execOp, ho, hF.ev hx, hF.ev hy, Instr.index, asIntOf, Sem.run_bind, Sem.run_pure, Result.andThen_ok, run_underlying ht, if_pos h1, Int.toNat_natCast, hso, hpart]
theorem k_rounds {c : Code} {N R : Act → World → Prop} {X : Nat → Act → World → Prop} (m : Nat) (h : ∀ a, Fr n ds L a → Code.rounds P c (Qp N X R) m a w) : ∀ a, Fr n ds L a → (Code.loop c).wp P (Qp N X R) a w := fun a hF => wp_loop_rounds m (h a hF)
theorem k_round {c : Code} {N R : Act → World → Prop} {X : Nat → Act → World → Prop} {m : Nat} (h : ∀ a, Fr n ds L a → c.wp P (Qp (fun a w => Code.rounds P c (Qp N X R) m a w) X R) a w) : ∀ a, Fr n ds L a → Code.rounds P c (Qp N X R) (m + 1) a w := fun a hF => by
  rw [rounds_succ]
  refine wp_mono (h a hF) fun e a w q => ?_
  cases e <;> exact q
end
theorem doneV {P : Program} {fn : Func} {R : Value → World → Prop} {n : Nat} {ds : List Deferred} {L : List (Nat × Value)} {a : Act} {w : World} (hF : Fr n ds L a) {rs : List ResultVar} (hr : fn.results = rs.toArray) (vs : List Value) (hv : ResAll P L w rs vs) {v : Value} (he : oneOf vs = v) (h : R v w) : Leaves P fn a.tmps (Ret R) [] .returning w := ⟨v, by rw [← he]; exact run_results hF hr hv, h⟩
end Go.Proofs.YtbegkbjigbkljaaGreatDoor
namespace Go.Proofs.YtbegkbjigbkljaaGreatDoor
abbrev stB (ps pd pt : Nat) (x : Sup) (lp : Value) (md : Nat) (un : Bool) (mo : Value) : Asn := blk ps [.pointer (some ⟨pd, 0, none⟩), .pointer (some ⟨pt, 0, none⟩), .int .i64 x.gen, .int .i64 x.epoch, .int .i64 x.pages, .int .i64 x.start, .int .i64 x.len, .int .i64 x.head, .int .i64 x.seq, lp, .map (some md), .bool un, mo] 108
abbrev lgB (pl pd pt : Nat) (s : Sup) (a q u : Int) (b nu : Bool) : Asn := blk pl [.pointer (some ⟨pd, 0, none⟩), .pointer (some ⟨pt, 0, none⟩), .int .i64 s.gen, .int .i64 s.epoch, .int .i64 s.pages, .int .i64 s.start, .int .i64 s.len, .int .i64 s.head, .int .i64 s.seq, .int .i64 a, .int .i64 q, .int .i64 u, .bool b, .bool nu] 176
end Go.Proofs.YtbegkbjigbkljaaGreatDoor
namespace Go.Proofs.YtbegkbjigbkljaaGreatDoor
open Go.RowKit
theorem in_c (x m : Int) : Cn Tryz.prog 101 [.int .i64 x, .int .i64 m] [] (fun v Γ => v = .bool (decide (0 ≤ x ∧ x ≤ m)) ∧ Γ = []) := by
 intro z R w H'; have H : Sep z (R) w := H'
 clear H'; refine enter Tryz.func101 rfl 12 Tryz.ntmps101 rfl (k_seq (s_region (s_M 1 rfl rfl (s_end (k_seq (s_region (s_M 3 rfl rfl (s_part 7 rfl (fun h1 => ?_) (fun h1 => ?_)))))))))
 ·refine s_M 5 rfl rfl (s_end (k_ret (doneL rfl [.bool (decide ((x : Int) ≤ m))] ⟨rfl, trivial⟩ (v := .bool (decide ((x : Int) ≤ m))) rfl ?_))); exact ⟨_, ⟨congrArg Value.bool (by rw [Bool.eq_iff_iff]; simp <;> omega), rfl⟩, H⟩
 ·refine s_M 5 rfl rfl (s_end (k_ret (doneL rfl [.bool false] ⟨rfl, trivial⟩ (v := .bool false) rfl ?_))); exact ⟨_, ⟨congrArg Value.bool (by rw [Bool.eq_iff_iff]; simp <;> omega), rfl⟩, H⟩
theorem size_c (pd bd m N : Nat) (f0 f1 f2 f3 lf : Int) (cut : Bool) (hN : N ≤ 9223372036854775807) : Cn Tryz.prog 68 [.pointer (some ⟨pd, 0, none⟩)] [blk pd [.slice (some ⟨bd, 0, none⟩) N N, .map (some m), .int .i64 f0, .int .i64 f1, .int .i64 f2, .int .i64 f3, .bool cut, .int .i64 lf] 120] (fun v Γ => v = .int .i64 ((N : Int) / 256) ∧ Γ = [blk pd [.slice (some ⟨bd, 0, none⟩) N N, .map (some m), .int .i64 f0, .int .i64 f1, .int .i64 f2, .int .i64 f3, .bool cut, .int .i64 lf] 120]) := by
 intro z R w H'; have H : Sep z (blk pd [.slice (some ⟨bd, 0, none⟩) N N, .map (some m), .int .i64 f0, .int .i64 f1, .int .i64 f2, .int .i64 f3, .bool cut, .int .i64 lf] 120 :: R) w := H'
 clear H'; refine enter Tryz.func68 rfl 9 Tryz.ntmps68 rfl (k_seq (s_region (s_M 1 rfl rfl (s_end (k_seq (s_region (s_L 4 [0, 0] (mm1 (H.blk 0 rfl) mm0) rfl (by kernel_rfl) rfl (s_do rfl rfl rfl (d_len rfl (z := 1) (by kernel_rfl) rfl) (s_do rfl rfl rfl (d_quo64 rfl rfl rfl (r := (N : Int) / 256) (by omega) (by omega) (by omega) (by omega)) (s_M 1 rfl rfl (s_end (k_ret (doneL rfl [.int .i64 ((N : Int) / 256)] ⟨rfl, trivial⟩ (v := .int .i64 ((N : Int) / 256)) rfl ?_))))))))))))); exact ⟨_, ⟨rfl, rfl⟩, H⟩
theorem there_c (pd bd m N : Nat) (f0 f1 f2 f3 lf : Int) (cut : Bool) (x k : Int) (hN : N ≤ 9223372036854775807) : Cn Tryz.prog 95 [.pointer (some ⟨pd, 0, none⟩), .int .i64 x, .int .i64 k] [blk pd [.slice (some ⟨bd, 0, none⟩) N N, .map (some m), .int .i64 f0, .int .i64 f1, .int .i64 f2, .int .i64 f3, .bool cut, .int .i64 lf] 120] (fun v Γ => v = .bool (decide (0 ≤ x ∧ 0 < k ∧ x < (N : Int) / 256 ∧ k ≤ (N : Int) / 256 - x)) ∧ Γ = [blk pd [.slice (some ⟨bd, 0, none⟩) N N, .map (some m), .int .i64 f0, .int .i64 f1, .int .i64 f2, .int .i64 f3, .bool cut, .int .i64 lf] 120]) := by
 intro z R w H'; have H : Sep z (blk pd [.slice (some ⟨bd, 0, none⟩) N N, .map (some m), .int .i64 f0, .int .i64 f1, .int .i64 f2, .int .i64 f3, .bool cut, .int .i64 lf] 120 :: R) w := H'
 clear H'; refine enter Tryz.func95 rfl 27 Tryz.ntmps95 rfl (k_seq (s_region (s_M 1 rfl rfl (s_end (k_seq (s_region (s_M 3 rfl rfl (s_part 9 rfl (fun h1 => ?_) (fun h1 => ?_)))))))))
 ·refine s_M 4 rfl rfl (s_part 13 rfl (fun h2 => ?_) (fun h2 => ?_))
  ·refine s_M 2 rfl rfl (s_C rfl rfl rfl rfl rfl (fun w => Tryz.call68 _ w) (size_c _ _ _ _ _ _ _ _ _ _ (by omega)) H rfl ?_); rintro _ w _ ⟨rfl, rfl⟩ H'; have H := H'.l1; clear H'; refine s_M 3 rfl rfl (s_part 19 rfl (fun h3 => ?_) (fun h3 => ?_))
   ·refine s_M 2 rfl rfl (s_C rfl rfl rfl rfl rfl (fun w => Tryz.call68 _ w) (size_c _ _ _ _ _ _ _ _ _ _ (by omega)) H rfl ?_); rintro _ w _ ⟨rfl, rfl⟩ H'; have H := H'.l1; clear H'; refine s_M 1 rfl rfl (s_do rfl rfl rfl (d_sub64 rfl rfl rfl (r := ((N : Int) / 256) - x) (by omega) (by omega)) (s_M 3 rfl rfl (s_end (k_ret (doneL rfl [.bool (decide ((k : Int) ≤ (((N : Int) / 256) - x)))] ⟨rfl, trivial⟩ (v := .bool (decide ((k : Int) ≤ (((N : Int) / 256) - x)))) rfl ?_))))); exact ⟨_, ⟨congrArg Value.bool (by first | (rw [eq_comm, decide_eq_false_iff_not]; omega) | (rw [Bool.eq_iff_iff]; simp <;> omega)), rfl⟩, H⟩
   ·refine s_M 8 rfl rfl (s_end (k_ret (doneL rfl [.bool false] ⟨rfl, trivial⟩ (v := .bool false) rfl ?_))); exact ⟨_, ⟨congrArg Value.bool (by first | (rw [eq_comm, decide_eq_false_iff_not]; omega) | (rw [Bool.eq_iff_iff]; simp <;> omega)), rfl⟩, H⟩
  ·refine s_M 14 rfl rfl (s_end (k_ret (doneL rfl [.bool false] ⟨rfl, trivial⟩ (v := .bool false) rfl ?_))); exact ⟨_, ⟨congrArg Value.bool (by first | (rw [eq_comm, decide_eq_false_iff_not]; omega) | (rw [Bool.eq_iff_iff]; simp <;> omega)), rfl⟩, H⟩
 ·refine s_M 18 rfl rfl (s_end (k_ret (doneL rfl [.bool false] ⟨rfl, trivial⟩ (v := .bool false) rfl ?_))); exact ⟨_, ⟨congrArg Value.bool (by first | (rw [eq_comm, decide_eq_false_iff_not]; omega) | (rw [Bool.eq_iff_iff]; simp <;> omega)), rfl⟩, H⟩
theorem down_c (pd bd m N : Nat) (f0 f1 f2 f3 lf : Int) (cut : Bool) : Cn Tryz.prog 102 [.pointer (some ⟨pd, 0, none⟩)] [blk pd [.slice (some ⟨bd, 0, none⟩) N N, .map (some m), .int .i64 f0, .int .i64 f1, .int .i64 f2, .int .i64 f3, .bool cut, .int .i64 lf] 120] (fun v Γ => v = .bool (cut && decide (lf = 0)) ∧ Γ = [blk pd [.slice (some ⟨bd, 0, none⟩) N N, .map (some m), .int .i64 f0, .int .i64 f1, .int .i64 f2, .int .i64 f3, .bool cut, .int .i64 lf] 120]) := by
 intro z R w H'; have H : Sep z (blk pd [.slice (some ⟨bd, 0, none⟩) N N, .map (some m), .int .i64 f0, .int .i64 f1, .int .i64 f2, .int .i64 f3, .bool cut, .int .i64 lf] 120 :: R) w := H'
 clear H'; refine enter Tryz.func102 rfl 14 Tryz.ntmps102 rfl (k_seq (s_region (s_M 1 rfl rfl (s_end (k_seq (s_region (s_L 5 [6, 0] (mm1 (H.blk 0 rfl) mm0) rfl (by kernel_rfl) rfl (s_part_b 7 rfl (fun h1 => ?_) (fun h1 => ?_)))))))))
 ·refine s_L 7 [7, 0] (mm1 (H.blk 0 rfl) mm0) rfl (by kernel_rfl) rfl (s_end (k_ret (doneL rfl [.bool (decide ((lf : Int) = 0))] ⟨rfl, trivial⟩ (v := .bool (decide ((lf : Int) = 0))) rfl ?_))); exact ⟨_, ⟨congrArg Value.bool (by simp_all), rfl⟩, H⟩
 ·refine s_M 7 rfl rfl (s_end (k_ret (doneL rfl [.bool false] ⟨rfl, trivial⟩ (v := .bool false) rfl ?_))); exact ⟨_, ⟨congrArg Value.bool (by simp_all), rfl⟩, H⟩
theorem fails1_c (pd bd m N : Nat) (f0 f1 f2 f3 lf : Int) (cut : Bool) (wf1 : 0 ≤ f1 ∧ f1 ≤ 9223372036854775807) : Cn Tryz.prog 96 [.pointer (some ⟨pd, 0, none⟩), .int .i64 1] [blk pd [.slice (some ⟨bd, 0, none⟩) N N, .map (some m), .int .i64 f0, .int .i64 f1, .int .i64 f2, .int .i64 f3, .bool cut, .int .i64 lf] 120] (fun v Γ => v = .bool (decide (f1 = 1)) ∧ Γ = [blk pd [.slice (some ⟨bd, 0, none⟩) N N, .map (some m), .int .i64 f0, .int .i64 (if f1 = 0 then 0 else f1 - 1), .int .i64 f2, .int .i64 f3, .bool cut, .int .i64 lf] 120]) := by
 intro z R w H'; have H : Sep z (blk pd [.slice (some ⟨bd, 0, none⟩) N N, .map (some m), .int .i64 f0, .int .i64 f1, .int .i64 f2, .int .i64 f3, .bool cut, .int .i64 lf] 120 :: R) w := H'
 clear H'; refine enter Tryz.func96 rfl 29 Tryz.ntmps96 rfl (k_seq (s_region (s_M 1 rfl rfl (s_end (k_seq (k_seq (s_region (s_Q 4 [2] rfl (by kernel_rfl) (s_do rfl rfl rfl (d_indexA (l := 4) rfl (z := 1) (j := 1) (r := 3) (by kernel_rfl) rfl rfl rfl (by omega) (by omega)) (s_L 2 [0] (mm1 (H.blk 0 rfl) mm0) rfl (by kernel_rfl) rfl (s_end (k_dec rfl (fun h1 => ?_) (fun h1 => ?_)))))))))))))
 ·refine k_seq (s_region (s_M 1 rfl rfl (s_end (k_ret (doneL rfl [.bool false] ⟨rfl, trivial⟩ (v := .bool false) rfl ?_))))); exact ⟨[blk pd [.slice (some ⟨bd, 0, none⟩) N N, .map (some m), .int .i64 f0, .int .i64 f1, .int .i64 f2, .int .i64 f3, .bool cut, .int .i64 lf] 120], ⟨congrArg Value.bool (by first | (rw [Bool.eq_iff_iff]; simp <;> omega) | (simp_all <;> omega)), by simp_all⟩, H⟩
 ·refine k_skip (k_seq (t_region 10 (by kernel_rfl) (by kernel_rfl) (fun w' x' _ => ?_))); have H' := H.ext0 x'; clear x' H; revert H'; generalize w' = w; intro H'
  have H := H'.l1; clear H'; refine t_M 4 [2] rfl (by kernel_rfl) (t_do rfl rfl rfl (d_indexA (l := 4) rfl (z := 1) (j := 1) (r := 3) (by kernel_rfl) rfl rfl rfl (by omega) (by omega)) (t_L 1 [0] (mm1 (H.blk 0 rfl) mm0) rfl (by kernel_rfl) rfl (t_do rfl rfl rfl (d_sub64 rfl rfl rfl (r := f1 - 1) (by omega) (by omega)) (t_M 2 [2] rfl (by kernel_rfl) (t_do rfl rfl rfl (d_indexA (l := 4) rfl (z := 1) (j := 1) (r := 3) (by kernel_rfl) rfl rfl rfl (by omega) (by omega)) (t_end (s_put rfl rfl (n_store 0 H rfl rfl rfl rfl (vs := [.int .i64 (f1 - 1)]) rfl (by simp [u8, u32, Value.oneCell']) (by kernel_rfl) (by simp) (out := [.slice (some ⟨bd, 0, none⟩) N N, .map (some m), .int .i64 f0, .int .i64 (f1 - 1), .int .i64 f2, .int .i64 f3, .bool cut, .int .i64 lf]) rfl) ?_))))))); rintro w H'; have H := H'.l1; clear H'; refine s_end (k_seq (s_region (s_Q 4 [2] rfl (by kernel_rfl) (s_do rfl rfl rfl (d_indexA (l := 4) rfl (z := 1) (j := 1) (r := 3) (by kernel_rfl) rfl rfl rfl (by omega) (by omega)) (s_L 3 [0] (mm1 (H.blk 0 rfl) mm0) rfl (by kernel_rfl) rfl (s_end (k_ret (doneL rfl [.bool (decide ((f1 - 1 : Int) = 0))] ⟨rfl, trivial⟩ (v := .bool (decide ((f1 - 1 : Int) = 0))) rfl ?_)))))))); exact ⟨[blk pd [.slice (some ⟨bd, 0, none⟩) N N, .map (some m), .int .i64 f0, .int .i64 (f1 - 1), .int .i64 f2, .int .i64 f3, .bool cut, .int .i64 lf] 120], ⟨congrArg Value.bool (by first | (rw [Bool.eq_iff_iff]; simp <;> omega) | (simp_all <;> omega)), by simp_all⟩, H⟩
theorem fails2_c (pd bd m N : Nat) (f0 f1 f2 f3 lf : Int) (cut : Bool) (wf2 : 0 ≤ f2 ∧ f2 ≤ 9223372036854775807) : Cn Tryz.prog 96 [.pointer (some ⟨pd, 0, none⟩), .int .i64 2] [blk pd [.slice (some ⟨bd, 0, none⟩) N N, .map (some m), .int .i64 f0, .int .i64 f1, .int .i64 f2, .int .i64 f3, .bool cut, .int .i64 lf] 120] (fun v Γ => v = .bool (decide (f2 = 1)) ∧ Γ = [blk pd [.slice (some ⟨bd, 0, none⟩) N N, .map (some m), .int .i64 f0, .int .i64 f1, .int .i64 (if f2 = 0 then 0 else f2 - 1), .int .i64 f3, .bool cut, .int .i64 lf] 120]) := by
 intro z R w H'; have H : Sep z (blk pd [.slice (some ⟨bd, 0, none⟩) N N, .map (some m), .int .i64 f0, .int .i64 f1, .int .i64 f2, .int .i64 f3, .bool cut, .int .i64 lf] 120 :: R) w := H'
 clear H'; refine enter Tryz.func96 rfl 29 Tryz.ntmps96 rfl (k_seq (s_region (s_M 1 rfl rfl (s_end (k_seq (k_seq (s_region (s_Q 4 [2] rfl (by kernel_rfl) (s_do rfl rfl rfl (d_indexA (l := 4) rfl (z := 1) (j := 2) (r := 4) (by kernel_rfl) rfl rfl rfl (by omega) (by omega)) (s_L 2 [0] (mm1 (H.blk 0 rfl) mm0) rfl (by kernel_rfl) rfl (s_end (k_dec rfl (fun h1 => ?_) (fun h1 => ?_)))))))))))))
 ·refine k_seq (s_region (s_M 1 rfl rfl (s_end (k_ret (doneL rfl [.bool false] ⟨rfl, trivial⟩ (v := .bool false) rfl ?_))))); exact ⟨[blk pd [.slice (some ⟨bd, 0, none⟩) N N, .map (some m), .int .i64 f0, .int .i64 f1, .int .i64 f2, .int .i64 f3, .bool cut, .int .i64 lf] 120], ⟨congrArg Value.bool (by first | (rw [Bool.eq_iff_iff]; simp <;> omega) | (simp_all <;> omega)), by simp_all⟩, H⟩
 ·refine k_skip (k_seq (t_region 10 (by kernel_rfl) (by kernel_rfl) (fun w' x' _ => ?_))); have H' := H.ext0 x'; clear x' H; revert H'; generalize w' = w; intro H'
  have H := H'.l1; clear H'; refine t_M 4 [2] rfl (by kernel_rfl) (t_do rfl rfl rfl (d_indexA (l := 4) rfl (z := 1) (j := 2) (r := 4) (by kernel_rfl) rfl rfl rfl (by omega) (by omega)) (t_L 1 [0] (mm1 (H.blk 0 rfl) mm0) rfl (by kernel_rfl) rfl (t_do rfl rfl rfl (d_sub64 rfl rfl rfl (r := f2 - 1) (by omega) (by omega)) (t_M 2 [2] rfl (by kernel_rfl) (t_do rfl rfl rfl (d_indexA (l := 4) rfl (z := 1) (j := 2) (r := 4) (by kernel_rfl) rfl rfl rfl (by omega) (by omega)) (t_end (s_put rfl rfl (n_store 0 H rfl rfl rfl rfl (vs := [.int .i64 (f2 - 1)]) rfl (by simp [u8, u32, Value.oneCell']) (by kernel_rfl) (by simp) (out := [.slice (some ⟨bd, 0, none⟩) N N, .map (some m), .int .i64 f0, .int .i64 f1, .int .i64 (f2 - 1), .int .i64 f3, .bool cut, .int .i64 lf]) rfl) ?_))))))); rintro w H'; have H := H'.l1; clear H'; refine s_end (k_seq (s_region (s_Q 4 [2] rfl (by kernel_rfl) (s_do rfl rfl rfl (d_indexA (l := 4) rfl (z := 1) (j := 2) (r := 4) (by kernel_rfl) rfl rfl rfl (by omega) (by omega)) (s_L 3 [0] (mm1 (H.blk 0 rfl) mm0) rfl (by kernel_rfl) rfl (s_end (k_ret (doneL rfl [.bool (decide ((f2 - 1 : Int) = 0))] ⟨rfl, trivial⟩ (v := .bool (decide ((f2 - 1 : Int) = 0))) rfl ?_)))))))); exact ⟨[blk pd [.slice (some ⟨bd, 0, none⟩) N N, .map (some m), .int .i64 f0, .int .i64 f1, .int .i64 (f2 - 1), .int .i64 f3, .bool cut, .int .i64 lf] 120], ⟨congrArg Value.bool (by first | (rw [Bool.eq_iff_iff]; simp <;> omega) | (simp_all <;> omega)), by simp_all⟩, H⟩
theorem fails3_c (pd bd m N : Nat) (f0 f1 f2 f3 lf : Int) (cut : Bool) (wf3 : 0 ≤ f3 ∧ f3 ≤ 9223372036854775807) : Cn Tryz.prog 96 [.pointer (some ⟨pd, 0, none⟩), .int .i64 3] [blk pd [.slice (some ⟨bd, 0, none⟩) N N, .map (some m), .int .i64 f0, .int .i64 f1, .int .i64 f2, .int .i64 f3, .bool cut, .int .i64 lf] 120] (fun v Γ => v = .bool (decide (f3 = 1)) ∧ Γ = [blk pd [.slice (some ⟨bd, 0, none⟩) N N, .map (some m), .int .i64 f0, .int .i64 f1, .int .i64 f2, .int .i64 (if f3 = 0 then 0 else f3 - 1), .bool cut, .int .i64 lf] 120]) := by
 intro z R w H'; have H : Sep z (blk pd [.slice (some ⟨bd, 0, none⟩) N N, .map (some m), .int .i64 f0, .int .i64 f1, .int .i64 f2, .int .i64 f3, .bool cut, .int .i64 lf] 120 :: R) w := H'
 clear H'; refine enter Tryz.func96 rfl 29 Tryz.ntmps96 rfl (k_seq (s_region (s_M 1 rfl rfl (s_end (k_seq (k_seq (s_region (s_Q 4 [2] rfl (by kernel_rfl) (s_do rfl rfl rfl (d_indexA (l := 4) rfl (z := 1) (j := 3) (r := 5) (by kernel_rfl) rfl rfl rfl (by omega) (by omega)) (s_L 2 [0] (mm1 (H.blk 0 rfl) mm0) rfl (by kernel_rfl) rfl (s_end (k_dec rfl (fun h1 => ?_) (fun h1 => ?_)))))))))))))
 ·refine k_seq (s_region (s_M 1 rfl rfl (s_end (k_ret (doneL rfl [.bool false] ⟨rfl, trivial⟩ (v := .bool false) rfl ?_))))); exact ⟨[blk pd [.slice (some ⟨bd, 0, none⟩) N N, .map (some m), .int .i64 f0, .int .i64 f1, .int .i64 f2, .int .i64 f3, .bool cut, .int .i64 lf] 120], ⟨congrArg Value.bool (by first | (rw [Bool.eq_iff_iff]; simp <;> omega) | (simp_all <;> omega)), by simp_all⟩, H⟩
 ·refine k_skip (k_seq (t_region 10 (by kernel_rfl) (by kernel_rfl) (fun w' x' _ => ?_))); have H' := H.ext0 x'; clear x' H; revert H'; generalize w' = w; intro H'
  have H := H'.l1; clear H'; refine t_M 4 [2] rfl (by kernel_rfl) (t_do rfl rfl rfl (d_indexA (l := 4) rfl (z := 1) (j := 3) (r := 5) (by kernel_rfl) rfl rfl rfl (by omega) (by omega)) (t_L 1 [0] (mm1 (H.blk 0 rfl) mm0) rfl (by kernel_rfl) rfl (t_do rfl rfl rfl (d_sub64 rfl rfl rfl (r := f3 - 1) (by omega) (by omega)) (t_M 2 [2] rfl (by kernel_rfl) (t_do rfl rfl rfl (d_indexA (l := 4) rfl (z := 1) (j := 3) (r := 5) (by kernel_rfl) rfl rfl rfl (by omega) (by omega)) (t_end (s_put rfl rfl (n_store 0 H rfl rfl rfl rfl (vs := [.int .i64 (f3 - 1)]) rfl (by simp [u8, u32, Value.oneCell']) (by kernel_rfl) (by simp) (out := [.slice (some ⟨bd, 0, none⟩) N N, .map (some m), .int .i64 f0, .int .i64 f1, .int .i64 f2, .int .i64 (f3 - 1), .bool cut, .int .i64 lf]) rfl) ?_))))))); rintro w H'; have H := H'.l1; clear H'; refine s_end (k_seq (s_region (s_Q 4 [2] rfl (by kernel_rfl) (s_do rfl rfl rfl (d_indexA (l := 4) rfl (z := 1) (j := 3) (r := 5) (by kernel_rfl) rfl rfl rfl (by omega) (by omega)) (s_L 3 [0] (mm1 (H.blk 0 rfl) mm0) rfl (by kernel_rfl) rfl (s_end (k_ret (doneL rfl [.bool (decide ((f3 - 1 : Int) = 0))] ⟨rfl, trivial⟩ (v := .bool (decide ((f3 - 1 : Int) = 0))) rfl ?_)))))))); exact ⟨[blk pd [.slice (some ⟨bd, 0, none⟩) N N, .map (some m), .int .i64 f0, .int .i64 f1, .int .i64 f2, .int .i64 (f3 - 1), .bool cut, .int .i64 lf] 120], ⟨congrArg Value.bool (by first | (rw [Bool.eq_iff_iff]; simp <;> omega) | (simp_all <;> omega)), by simp_all⟩, H⟩
theorem own_c (pd bd m N : Nat) (f0 f1 f2 f3 lf : Int) (cut : Bool) (i : Nat) (hN : N ≤ 9223372036854775807) (hi : (i + 1) * 256 ≤ N) : Cn Tryz.prog 62 [.pointer (some ⟨pd, 0, none⟩), .int .i64 (i : Int)] [blk pd [.slice (some ⟨bd, 0, none⟩) N N, .map (some m), .int .i64 f0, .int .i64 f1, .int .i64 f2, .int .i64 f3, .bool cut, .int .i64 lf] 120] (fun v Γ => v = .slice (some ⟨bd, i * 256, none⟩) 256 (N - i * 256) ∧ Γ = [blk pd [.slice (some ⟨bd, 0, none⟩) N N, .map (some m), .int .i64 f0, .int .i64 f1, .int .i64 f2, .int .i64 f3, .bool cut, .int .i64 lf] 120]) := by
 intro z R w H'; have H : Sep z (blk pd [.slice (some ⟨bd, 0, none⟩) N N, .map (some m), .int .i64 f0, .int .i64 f1, .int .i64 f2, .int .i64 f3, .bool cut, .int .i64 lf] 120 :: R) w := H'
 clear H'; refine enter Tryz.func62 rfl 15 Tryz.ntmps62 rfl (k_seq (s_region (s_M 1 rfl rfl (s_end (k_seq (s_region (s_L 5 [0, 0] (mm1 (H.blk 0 rfl) mm0) rfl (by kernel_rfl) rfl (s_do rfl rfl rfl (d_mul64 rfl rfl rfl (r := (i : Int) * 256) (by omega) (by omega)) (s_M 1 rfl rfl (s_do rfl rfl rfl (d_add64 rfl rfl rfl (r := (i : Int) + 1) (by omega) (by omega)) (s_do rfl rfl rfl (d_mul64 rfl rfl rfl (r := ((i : Int) + 1) * 256) (by omega) (by omega)) (s_do rfl rfl rfl (d_sliceC rfl (z := 1) (p := (i * 256)) (q := ((i + 1) * 256)) (o' := i * 256) (l' := 256) (c' := N - i * 256) (by kernel_rfl) rfl (.inr ⟨_, _, _, rfl, rfl, (by omega)⟩) (.inr ⟨_, _, _, rfl, rfl, (by omega)⟩) (by omega) (by omega) (by omega) (by omega) (by omega) (by omega)) (s_M 1 rfl rfl ?_))))))))))))); refine s_end (k_ret (doneL rfl [.slice (some ⟨bd, (i * 256), none⟩) 256 (N - i * 256)] ⟨rfl, trivial⟩ (v := .slice (some ⟨bd, (i * 256), none⟩) 256 (N - i * 256)) rfl ?_)); exact ⟨_, ⟨rfl, rfl⟩, H⟩
end Go.Proofs.YtbegkbjigbkljaaGreatDoor
namespace Go.Proofs.YtbegkbjigbkljaaGreatDoor
open Go.RowKit
theorem ilock_c (pt i : Nat) (x0 x2 : Value) : Cn Tryz.prog 192 [.pointer (some ⟨pt, 1, none⟩)] [blk pt (tabC x0 (.int .i32 0) x2 i) 172] (fun v Γ => v = .tuple #[] ∧ Γ = [blk pt (tabC x0 (.int .i32 1) x2 i) 172]) := by
 intro z R w H'; have H : Sep z (blk pt (tabC x0 (.int .i32 0) x2 i) 172 :: R) w := H'
 clear H'; refine enter Tryz.func192 rfl 13 Tryz.ntmps192 rfl (k_seq (s_region (s_do rfl rfl rfl (d_ext (v := .tuple #[]) (vs := []) rfl rfl (fun w _ => run_call_mark0 Tryz.func196 (by kernel_rfl) (by kernel_rfl) (by kernel_rfl) .disable (by kernel_rfl) w)) (s_end (k_seq (k_seq (s_region (s_Q 3 [1] rfl (by kernel_rfl) (s_go rfl rfl rfl (n_ext 0 (p := 1) (u0 := .int .i32 0) (u := .int .i32 1) (v := .bool true) H rfl rfl rfl (vs := [.pointer (some ⟨pt, 1, none⟩), .int .i32 0, .int .i32 1]) rfl rfl (fun hc hz => run_call_cas_hit Tryz.func197 (by kernel_rfl) (by kernel_rfl) (by kernel_rfl) .i32 (by kernel_rfl) hc hz) (out := (tabC x0 (.int .i32 1) x2 i)) rfl) ?_))))))))); rintro _ w ⟨rfl, H'⟩; have H := H'.l1; clear H'; refine s_end (k_true rfl (k_seq (k_true rfl (k_seq (s_region (s_do rfl rfl rfl (d_ext (v := .tuple #[]) (vs := []) rfl rfl (fun w _ => run_call_mark0 Tryz.func198 (by kernel_rfl) (by kernel_rfl) (by kernel_rfl) .enable (by kernel_rfl) w)) (s_end (s_region (s_M 1 rfl rfl (s_do rfl rfl rfl (d_unsafe rfl (by kernel_rfl) rfl (here (H.cel 0 rfl 1 rfl))) (s_do rfl rfl rfl (d_ext (v := .tuple #[]) (vs := [.pointer (some ⟨pt, 1, none⟩)]) rfl rfl (fun w _ => run_call_marked Tryz.func199 (by kernel_rfl) (by kernel_rfl) (by kernel_rfl) .acquire (by kernel_rfl) _ w)) (s_end (k_ret ?_))))))))))))); refine doneL rfl [] trivial (v := .tuple #[]) rfl ?_; exact ⟨[blk pt (tabC x0 (.int .i32 1) x2 i) 172], ⟨rfl, rfl⟩, H⟩
theorem iunlock_c (pt i : Nat) (x0 x2 : Value) : Cn Tryz.prog 193 [.pointer (some ⟨pt, 1, none⟩)] [blk pt (tabC x0 (.int .i32 1) x2 i) 172] (fun v Γ => v = .tuple #[] ∧ Γ = [blk pt (tabC x0 (.int .i32 0) x2 i) 172]) := by
 intro z R w H'; have H : Sep z (blk pt (tabC x0 (.int .i32 1) x2 i) 172 :: R) w := H'
 clear H'; refine enter Tryz.func193 rfl 21 Tryz.ntmps193 rfl (k_seq (k_true rfl (k_seq (s_region (s_L 4 [1, 0] (mm1 (H.blk 0 rfl) mm0) rfl (by kernel_rfl) rfl (s_end (k_seq (s_region (s_M 1 rfl rfl (s_do rfl rfl rfl (d_unsafe rfl (by kernel_rfl) rfl (here (H.cel 0 rfl 1 rfl))) (s_do rfl rfl rfl (d_ext (v := .tuple #[]) (vs := [.pointer (some ⟨pt, 1, none⟩)]) rfl rfl (fun w _ => run_call_marked Tryz.func201 (by kernel_rfl) (by kernel_rfl) (by kernel_rfl) .releaseMerge (by kernel_rfl) _ w)) (s_end (s_region ?_))))))))))))); refine s_do rfl rfl rfl (d_ext (v := .tuple #[]) (vs := []) rfl rfl (fun w _ => run_call_mark0 Tryz.func196 (by kernel_rfl) (by kernel_rfl) (by kernel_rfl) .disable (by kernel_rfl) w)) (s_end (k_seq (s_region (s_Q 3 [1] rfl (by kernel_rfl) (s_go rfl rfl rfl (n_ext 0 (p := 1) (u0 := .int .i32 1) (u := .int .i32 0) (v := .int .i32 0) H rfl rfl rfl (vs := [.pointer (some ⟨pt, 1, none⟩), .int .i32 (-1)]) rfl rfl (fun hc hz => run_call_add Tryz.func202 (by kernel_rfl) (by kernel_rfl) (by kernel_rfl) .i32 (by kernel_rfl) (s := 0) hc hz (by simp [go_sem]; rfl)) (out := (tabC x0 (.int .i32 0) x2 i)) rfl) ?_))))); rintro _ w ⟨rfl, H'⟩; have H := H'.l1; clear H'; refine s_M 1 rfl rfl (s_end (k_seq (k_seq (s_region (s_M 2 rfl rfl (k_updA 16 (u := .bool (decide ((0 : Int) ≠ 0))) (v := .bool false) rfl (congrArg Value.bool (by decide)) (s_end (k_false rfl (k_skip (s_region (s_do rfl rfl rfl (d_ext (v := .tuple #[]) (vs := []) rfl rfl (fun w _ => run_call_mark0 Tryz.func198 (by kernel_rfl) (by kernel_rfl) (by kernel_rfl) .enable (by kernel_rfl) w)) (s_end (doneL rfl [] trivial (v := .tuple #[]) rfl ?_)))))))))))))
 exact ⟨[blk pt (tabC x0 (.int .i32 0) x2 i) 172], ⟨rfl, rfl⟩, H⟩
theorem lock_c (pt i : Nat) (x0 x2 : Value) : Cn Tryz.prog 186 [.pointer (some ⟨pt, 1, none⟩)] [blk pt (tabC x0 (.int .i32 0) x2 i) 172] (fun v Γ => v = .tuple #[] ∧ Γ = [blk pt (tabC x0 (.int .i32 1) x2 i) 172]) := by
 intro z R w H'; have H : Sep z (blk pt (tabC x0 (.int .i32 0) x2 i) 172 :: R) w := H'
 clear H'; refine enter Tryz.func186 rfl 6 Tryz.ntmps186 rfl (s_region (s_Q 3 [1] rfl (by kernel_rfl) (s_C rfl rfl rfl rfl rfl (fun w => Tryz.call192 _ w) (ilock_c _ _ _ _) H rfl ?_))); rintro _ w _ ⟨rfl, rfl⟩ H'; have H := H'.l1; clear H'; refine s_end (doneL rfl [] trivial (v := .tuple #[]) rfl ?_); exact ⟨[blk pt (tabC x0 (.int .i32 1) x2 i) 172], ⟨rfl, rfl⟩, H⟩
theorem unlock_d (pt i : Nat) (x0 x2 : Value) : CnD Tryz.prog 187 [.pointer (some ⟨pt, 1, none⟩)] [blk pt (tabC x0 (.int .i32 1) x2 i) 172] (fun v Γ => v = .tuple #[] ∧ Γ = [blk pt (tabC x0 (.int .i32 0) x2 i) 172]) := by
 intro z R u w H'; have H : Sep z (blk pt (tabC x0 (.int .i32 1) x2 i) 172 :: R) w := H'
 clear H'; refine enterD Tryz.func187 rfl 6 Tryz.ntmps187 rfl (s_region (s_Q 3 [1] rfl (by kernel_rfl) (s_C rfl rfl rfl rfl rfl (fun w => Tryz.call193 _ w) (iunlock_c _ _ _ _) H rfl ?_))); rintro _ w _ ⟨rfl, rfl⟩ H'; have H := H'.l1; clear H'; refine s_end (doneL rfl [] trivial (v := .tuple #[]) rfl ?_); exact ⟨[blk pt (tabC x0 (.int .i32 0) x2 i) 172], ⟨rfl, rfl⟩, H⟩
theorem b32_c  : Cn Tryz.prog 195 [.bool true] [] (fun v Γ => v = .int .u32 1 ∧ Γ = []) := by
 intro z R w H'; have H : Sep z (R) w := H'
 clear H'; refine enter Tryz.func195 rfl 4 Tryz.ntmps195 rfl (k_seq (s_region (s_M 1 rfl rfl (s_end (k_seq (k_seq (s_region (s_M 1 rfl rfl (s_end (k_true rfl (k_seq (s_region (s_M 1 rfl rfl ?_))))))))))))); refine s_end (k_ret (doneL rfl [u32 1] ⟨rfl, trivial⟩ (v := u32 1) rfl ?_)); exact ⟨[], ⟨rfl, rfl⟩, H⟩
theorem bload0_c (pt i : Nat) (x1 x2 : Value) : Cn Tryz.prog 173 [.pointer (some ⟨pt, 0, none⟩)] [blk pt (tabC (.int .u32 0) x1 x2 i) 172] (fun v Γ => v = .bool false ∧ Γ = [blk pt (tabC (.int .u32 0) x1 x2 i) 172]) := by
 intro z R w H'; have H : Sep z (blk pt (tabC (.int .u32 0) x1 x2 i) 172 :: R) w := H'
 clear H'; refine enter Tryz.func173 rfl 8 Tryz.ntmps173 rfl (k_seq (s_region (s_M 1 rfl rfl (s_end (k_seq (s_region (s_Q 3 [0] rfl (by kernel_rfl) (s_do rfl rfl rfl (d_ext (v := .int .u32 0) (vs := [.pointer (some ⟨pt, 0, none⟩)]) rfl rfl (here (run_call_load Tryz.func185 (by kernel_rfl) (by kernel_rfl) (by kernel_rfl) .u32 (by kernel_rfl) (H.cel 0 rfl 0 rfl)))) (s_M 1 rfl rfl (k_updA 7 (u := .bool (decide ((0 : Int) ≠ 0))) (v := .bool false) rfl (congrArg Value.bool (by decide)) (s_M 1 rfl rfl (s_end (k_ret ?_))))))))))))); refine doneL rfl [.bool false] ⟨rfl, trivial⟩ (v := .bool false) rfl ?_; exact ⟨[blk pt (tabC (.int .u32 0) x1 x2 i) 172], ⟨rfl, rfl⟩, H⟩
theorem bload1_c (pt i : Nat) (x1 x2 : Value) : Cn Tryz.prog 173 [.pointer (some ⟨pt, 0, none⟩)] [blk pt (tabC (.int .u32 1) x1 x2 i) 172] (fun v Γ => v = .bool true ∧ Γ = [blk pt (tabC (.int .u32 1) x1 x2 i) 172]) := by
 intro z R w H'; have H : Sep z (blk pt (tabC (.int .u32 1) x1 x2 i) 172 :: R) w := H'
 clear H'; refine enter Tryz.func173 rfl 8 Tryz.ntmps173 rfl (k_seq (s_region (s_M 1 rfl rfl (s_end (k_seq (s_region (s_Q 3 [0] rfl (by kernel_rfl) (s_do rfl rfl rfl (d_ext (v := .int .u32 1) (vs := [.pointer (some ⟨pt, 0, none⟩)]) rfl rfl (here (run_call_load Tryz.func185 (by kernel_rfl) (by kernel_rfl) (by kernel_rfl) .u32 (by kernel_rfl) (H.cel 0 rfl 0 rfl)))) (s_M 1 rfl rfl (k_updA 7 (u := .bool (decide ((1 : Int) ≠ 0))) (v := .bool true) rfl (congrArg Value.bool (by decide)) (s_M 1 rfl rfl (s_end (k_ret ?_))))))))))))); refine doneL rfl [.bool true] ⟨rfl, trivial⟩ (v := .bool true) rfl ?_; exact ⟨[blk pt (tabC (.int .u32 1) x1 x2 i) 172], ⟨rfl, rfl⟩, H⟩
theorem bstore_d (pt i : Nat) (x1 x2 : Value) : CnD Tryz.prog 188 [.pointer (some ⟨pt, 0, none⟩), .bool true] [blk pt (tabC (.int .u32 0) x1 x2 i) 172] (fun v Γ => v = .tuple #[] ∧ Γ = [blk pt (tabC (.int .u32 1) x1 x2 i) 172]) := by
 intro z R u w H'; have H : Sep z (blk pt (tabC (.int .u32 0) x1 x2 i) 172 :: R) w := H'
 clear H'; refine enterD Tryz.func188 rfl 10 Tryz.ntmps188 rfl (l_region (Sep z (blk pt (tabC (.int .u32 0) x1 x2 i) 172 :: R)) 6 rfl (by kernel_rfl) (fun w' x' _ => ?_)); have H' := H.ext0 x'; clear x' H; revert H'; generalize w' = w; intro H'
 have H := H'.l1; clear H'; refine l_L [0, 1, 2, 3] [0] (by kernel_rfl) (fun _ _ => mm0) (by exact (H.pick 1 [0] rfl)) rfl (by kernel_rfl) rfl rfl (l_all [4] (by kernel_rfl) (by simp) (all1 (o_C rfl rfl rfl rfl rfl rfl (fun w => Tryz.call195 _ w) (b32_c ) H rfl ?_))); rintro _ w _ ⟨rfl, rfl⟩ H'; have H := H'.l1; clear H'; refine l_and (fun _ => (H.pick 1 [0] rfl)) (l_all [5] (by kernel_rfl) (by simp) (all1 (o_go rfl rfl rfl rfl (n_ext 0 (p := 0) (u0 := .int .u32 0) (u := .int .u32 1) (v := .tuple #[]) H rfl rfl rfl (vs := [.pointer (some ⟨pt, 0, none⟩), .int .u32 1]) rfl rfl (fun hc hz => run_call_store Tryz.func194 (by kernel_rfl) (by kernel_rfl) (by kernel_rfl) (by kernel_rfl) hc hz) (out := (tabC (.int .u32 1) x1 x2 i)) rfl) ?_))); rintro _ w ⟨rfl, H'⟩; have H := H'.l1; clear H'; refine l_and (fun h => absurd rfl h) (l_done (by kernel_rfl) (doneL rfl [] trivial (v := .tuple #[]) rfl ?_)); exact ⟨[blk pt (tabC (.int .u32 1) x1 x2 i) 172], ⟨rfl, rfl⟩, H⟩
theorem make_c (pt : Nat) (x0 x1 x2 : Value) : Cn Tryz.prog 154 [.pointer (some ⟨pt, 0, none⟩)] [blk pt (tabC x0 x1 x2 0) 172] (fun v Γ => v = .tuple #[] ∧ Γ = [blk pt (tabC x0 x1 x2 256) 172]) := by
 intro z R w H'; have H : Sep z (blk pt (tabC x0 x1 x2 0) 172 :: R) w := H'
 clear H'; refine enter Tryz.func154 rfl 25 Tryz.ntmps154 rfl (k_seq (s_region (s_M 1 rfl rfl (s_end (k_block ?_))))); refine c_loop (σ := Nat) (fun i => [(4, .int .i64 (i : Int)), (0, .pointer (some ⟨pt, 0, none⟩))])
   (fun i w => Sep z (blk pt (tabC x0 x1 x2 i) 172 :: R) w ∧ (i ≤ 256)) (fun i => 256 - i) 0
   (fun _ hF => (hF.co rfl (by go_num) (hF.all rfl))) ⟨H, by omega⟩ ?_
 clear H; rintro i w ⟨H', hI⟩; have H := H'.l1; clear H'; have hi256 := hI; clear hI
 refine k_seq (s_region (s_M 1 rfl rfl (s_end (k_seq (k_dec rfl (fun h1 => ?_) (fun h1 => ?_))))))
 ·have hlt : i < 256 := by omega
  refine k_skip (k_seq (k_block (k_seq (s_region (s_M 2 rfl rfl (s_end (k_seq (s_region (s_M 1 rfl rfl (s_do rfl rfl rfl (d_to32 rfl (by kernel_rfl) rfl) (s_M 1 rfl rfl (s_end (k_seq ?_))))))))))))); refine k_seq (s_region (s_M 1 rfl rfl (s_end (k_block ?_)))); refine c_loop (σ := Nat) (fun j => [(9, .int .i64 (j : Int)), (3, u32 (crcIt j (w32 (i : Int)))), (0, .pointer (some ⟨pt, 0, none⟩)), (2, .int .i64 (i : Int)), (4, .int .i64 (i : Int)), (5, .bool (decide ((i : Int) < 256))), (6, .int .i64 (i : Int)), (7, .int .i64 (i : Int)), (8, u32 (w32 (i : Int)))])
    (fun j w => Sep z (blk pt (tabC x0 x1 x2 i) 172 :: R) w ∧ (j ≤ 8)) (fun j => 8 - j) 0
    (fun _ hF => (hF.co rfl (by go_num) (hF.co rfl (by go_num) (hF.all rfl)))) ⟨H, by omega⟩ ?_
  clear H; rintro j w ⟨H', hI⟩; have H := H'.l1; clear H'; have hj8 := hI; clear hI
  refine k_seq (s_region (s_M 1 rfl rfl (s_end (k_seq (k_dec rfl (fun h2 => ?_) (fun h2 => ?_))))))
  ·refine k_skip (k_seq (k_block (s_region (s_M 1 rfl rfl (s_do rfl rfl rfl (d_shr32 rfl rfl (m := 1) (n' := 1) rfl (by decide)) (s_M 1 rfl rfl (s_do rfl rfl rfl (d_and32 (q := 1) rfl rfl rfl) (s_do rfl rfl rfl (d_mul32 (q := 2197175160) rfl rfl rfl) (s_do rfl rfl rfl (d_xor32 rfl rfl rfl) (s_M 1 rfl rfl (s_end (s_region (s_do rfl rfl rfl (d_add64 rfl rfl rfl (r := (j : Int) + 1) (by omega) (by omega)) ?_))))))))))))); refine s_M 1 rfl rfl (s_end ?_); intro _ hF; refine ⟨(j + 1), (hF.co rfl (by go_num) (hF.co rfl (by go_num) (hF.all rfl))), ⟨H, ?_⟩, ?_⟩
   ·omega
   ·omega
  ·obtain rfl : j = 8 := by omega
   refine k_exit (k_here (s_region (s_Q 5 [3] rfl (by kernel_rfl) (s_do rfl rfl rfl (d_indexA (l := 256) rfl (z := 1) (j := i) (r := 3 + i) (by kernel_rfl) rfl rfl rfl (by omega) (by omega)) (s_put rfl rfl (n_store 0 H rfl rfl rfl rfl (vs := [u32 (crcIt 8 (w32 (i : Int)))]) rfl (by simp [u32, Value.oneCell']) (by kernel_rfl) (by rw [tabC_len _ _ _ (by omega)]; simp; omega) (out := tabC x0 x1 x2 (i + 1)) (by have := tabC_step x0 x1 x2 hlt; simpa using this)) ?_))))); rintro w H'; have H := H'.l1; clear H'; refine s_end (s_region (s_do rfl rfl rfl (d_add64 rfl rfl rfl (r := (i : Int) + 1) (by omega) (by omega)) (s_M 1 rfl rfl (s_end ?_)))); intro _ hF; refine ⟨(i + 1), (hF.co rfl (by go_num) (hF.all rfl)), ⟨H, ?_⟩, ?_⟩
   ·omega
   ·omega
 ·refine k_exit (k_here (doneL rfl [] trivial (v := .tuple #[]) rfl ?_)); obtain rfl : i = 256 := by omega
  exact ⟨[blk pt (tabC x0 x1 x2 256) 172], ⟨rfl, rfl⟩, H⟩
theorem slow_c (pt : Nat) : Cn Tryz.prog 174 [.pointer (some ⟨pt, 0, none⟩), .func (.func 154) #[.pointer (some ⟨pt, 0, none⟩)] #[]] [blk pt (tabC (.int .u32 0) (.int .i32 0) (.int .u32 0) 0) 172] (fun v Γ => v = .tuple #[] ∧ Γ = [blk pt (tabC (.int .u32 1) (.int .i32 0) (.int .u32 0) 256) 172]) := by
 intro z R w H'; have H : Sep z (blk pt (tabC (.int .u32 0) (.int .i32 0) (.int .u32 0) 0) 172 :: R) w := H'
 clear H'; refine enterL Tryz.func174 rfl 21 Tryz.ntmps174 rfl (k_seq (s_region (s_Q 3 [1] rfl (by kernel_rfl) (s_C rfl rfl rfl rfl rfl (fun w => Tryz.call186 _ w) (lock_c _ _ _ _) H rfl ?_)))); rintro _ w _ ⟨rfl, rfl⟩ H'; have H := H'.l1; clear H'; refine s_end (k_seq (s_region (s_Q 3 [1] rfl (by kernel_rfl) (s_defer rfl rfl rfl rfl (s_end (k_seq (s_region (s_Q 3 [0] rfl (by kernel_rfl) (s_C rfl rfl rfl rfl rfl (fun w => Tryz.call173 _ w) (bload0_c _ _ _ _) H rfl ?_))))))))); rintro _ w _ ⟨rfl, rfl⟩ H'; have H := H'.l1; clear H'; refine s_M 1 rfl rfl (s_end (k_true rfl (k_seq (s_region (s_Q 3 [0] rfl (by kernel_rfl) (s_defer rfl rfl rfl rfl (s_end (s_region (s_M 1 rfl rfl (s_callB (bs := [.pointer (some ⟨pt, 0, none⟩)]) (vs := []) rfl rfl rfl rfl rfl rfl (fun w => Tryz.call154 _ w) (make_c pt (.int .u32 0) (.int .i32 1) (.int .u32 0)) H 1 [0] rfl rfl ?_)))))))))); rintro _ w _ ⟨rfl, rfl⟩ H'; have H := H'.l1; clear H'; refine s_end ?_; intro a hF; unfold DoneL; rw [hF.defers]; refine leaves_C (fun w => Tryz.call188 _ w) (bstore_d pt 256 (.int .i32 1) (.int .u32 0)) H 1 [0] rfl rfl ?_; rintro _ w _ ⟨rfl, rfl⟩ H'; clear H; have H : Sep z (blk pt (tabC (.int .u32 1) (.int .i32 1) (.int .u32 0) 256) 172 :: R) w := H'
 refine leaves_C (fun w => Tryz.call187 _ w) (unlock_d pt 256 (.int .u32 1) (.int .u32 0)) H 1 [0] rfl rfl ?_; rintro _ w _ ⟨rfl, rfl⟩ H'; exact doneN rfl ⟨_, ⟨rfl, rfl⟩, H'⟩
theorem do0_c (pt : Nat) : Cn Tryz.prog 153 [.pointer (some ⟨pt, 0, none⟩), .func (.func 154) #[.pointer (some ⟨pt, 0, none⟩)] #[]] [blk pt (tabC (.int .u32 0) (.int .i32 0) (.int .u32 0) 0) 172] (fun v Γ => v = .tuple #[] ∧ Γ = [blk pt (tabC (.int .u32 1) (.int .i32 0) (.int .u32 0) 256) 172]) := by
 intro z R w H'; have H : Sep z (blk pt (tabC (.int .u32 0) (.int .i32 0) (.int .u32 0) 0) 172 :: R) w := H'
 clear H'; refine enter Tryz.func153 rfl 12 Tryz.ntmps153 rfl (k_seq (s_region (s_Q 3 [0] rfl (by kernel_rfl) (s_C rfl rfl rfl rfl rfl (fun w => Tryz.call173 _ w) (bload0_c _ _ _ _) H rfl ?_)))); rintro _ w _ ⟨rfl, rfl⟩ H'; have H := H'.l1; clear H'; refine s_M 1 rfl rfl (s_end (k_true rfl (s_region (s_M 2 rfl rfl (s_C rfl rfl rfl rfl rfl (fun w => Tryz.call174 _ w) (slow_c _) H rfl ?_))))); rintro _ w _ ⟨rfl, rfl⟩ H'; have H := H'.l1; clear H'; refine s_end (doneL rfl [] trivial (v := .tuple #[]) rfl ?_); exact ⟨[blk pt (tabC (.int .u32 1) (.int .i32 0) (.int .u32 0) 256) 172], ⟨rfl, rfl⟩, H⟩
theorem do1_c (pt : Nat) : Cn Tryz.prog 153 [.pointer (some ⟨pt, 0, none⟩), .func (.func 154) #[.pointer (some ⟨pt, 0, none⟩)] #[]] [blk pt (tabC (.int .u32 1) (.int .i32 0) (.int .u32 0) 256) 172] (fun v Γ => v = .tuple #[] ∧ Γ = [blk pt (tabC (.int .u32 1) (.int .i32 0) (.int .u32 0) 256) 172]) := by
 intro z R w H'; have H : Sep z (blk pt (tabC (.int .u32 1) (.int .i32 0) (.int .u32 0) 256) 172 :: R) w := H'
 clear H'; refine enter Tryz.func153 rfl 12 Tryz.ntmps153 rfl (k_seq (s_region (s_Q 3 [0] rfl (by kernel_rfl) (s_C rfl rfl rfl rfl rfl (fun w => Tryz.call173 _ w) (bload1_c _ _ _ _) H rfl ?_)))); rintro _ w _ ⟨rfl, rfl⟩ H'; have H := H'.l1; clear H'; refine s_M 1 rfl rfl (s_end (k_false rfl (k_skip (doneL rfl [] trivial (v := .tuple #[]) rfl ?_)))); exact ⟨[blk pt (tabC (.int .u32 1) (.int .i32 0) (.int .u32 0) 256) 172], ⟨rfl, rfl⟩, H⟩
theorem do_c (pt : Nat) : Cn Tryz.prog 153 [.pointer (some ⟨pt, 0, none⟩), .func (.func 154) #[.pointer (some ⟨pt, 0, none⟩)] #[]] [tblA pt] (fun v Γ => v = .tuple #[] ∧ Γ = [blk pt (tabC (.int .u32 1) (.int .i32 0) (.int .u32 0) 256) 172]) := Cn.or (do0_c pt) (do1_c pt)
theorem crcnew_c  : Cn Tryz.prog 63 [] [] (fun v Γ => (∃ pt, v = .pointer (some ⟨pt, 0, none⟩) ∧ Γ = [tblA pt])) := by
 intro z R w H'; have H : Sep z (R) w := H'
 clear H'; refine enter Tryz.func63 rfl 3 Tryz.ntmps63 rfl (k_seq (s_region (s_M 1 rfl rfl (s_end (k_seq (s_region (s_do rfl rfl rfl (d_build rfl rfl (out := (tabC (.int .u32 0) (.int .i32 0) (.int .u32 0) 0)) (by kernel_rfl)) (s_go rfl rfl rfl (n_box H rfl rfl (cs := (tabC (.int .u32 0) (.int .i32 0) (.int .u32 0) 0)) rfl) ?_)))))))); rintro _ w ⟨b1, rfl, H'⟩; have H := H'.l1; clear H'; refine s_M 1 rfl rfl (s_end (k_ret (doneL rfl [.pointer (some ⟨b1, 0, none⟩)] ⟨rfl, trivial⟩ (v := .pointer (some ⟨b1, 0, none⟩)) rfl ?_))); have H := H.mono 0 (B := tblA b1) rfl (fun h q => .inl q); exact ⟨[tblA b1], ⟨b1, rfl, rfl⟩, H⟩
theorem more_c (pt : Nat) (sum : UInt32) (v : Value) (bs : List UInt8) (A : Asn) (hA : ∀ h, A h → rdH 1 v bs.length (bs.map u8) h) : Cn Tryz.prog 137 [.pointer (some ⟨pt, 0, none⟩), u32 sum, v] [tblA pt, A] (fun v Γ => v = u32 (crcMore sum bs) ∧ Γ = [tblA pt, A]) := by
 intro z R w H'; have H : Sep z (tblA pt :: A :: R) w := H'
 clear H'; obtain ⟨ao, c, rfl⟩ := H.says 1 rfl (fun h q => (hA h q).slc); have hbm := H.says 1 rfl (fun h q => (hA h q).small)
 refine enter Tryz.func137 rfl 39 Tryz.ntmps137 rfl (k_seq (s_region (s_M 1 rfl rfl (s_end (k_seq (s_region (s_Q 4 [0] rfl (by kernel_rfl) (s_do rfl rfl rfl (d_makeFunc rfl rfl rfl) (s_C rfl rfl rfl rfl rfl (fun w => Tryz.call153 _ w) (do_c _) H rfl ?_))))))))); rintro _ w _ ⟨rfl, rfl⟩ H'; have H := H'.l2; clear H'; refine s_end (k_seq (s_region (s_M 1 rfl rfl (s_do rfl rfl rfl (d_not32 rfl rfl) (s_M 1 rfl rfl (s_end (k_seq (k_seq (s_region (s_M 1 rfl rfl (s_do rfl rfl rfl (d_len rfl (z := 1) (by kernel_rfl) rfl) (s_M 1 rfl rfl (s_end ?_))))))))))))); refine k_block ?_; refine c_loop (σ := Nat) (fun k => [(20, .int .i64 (k : Int)), (7, u32 ((bs.take k).foldl crcByte (4294967295 ^^^ sum))), (0, .pointer (some ⟨pt, 0, none⟩)), (6, u32 0), (18, .slice ao bs.length c), (19, .int .i64 (bs.length : Int))])
   (fun k w => Sep z (blk pt (tabC (.int .u32 1) (.int .i32 0) (.int .u32 0) 256) 172 :: A :: R) w ∧ (k ≤ bs.length)) (fun k => bs.length - k) 0
   (fun _ hF => (hF.co rfl (by go_num) (hF.co rfl (by go_num) (hF.all rfl)))) ⟨H, by omega⟩ ?_
 clear H; rintro k w ⟨H', hI⟩; have H := H'.l2; clear H'; have hk := hI; clear hI
 refine k_seq (s_region (s_M 1 rfl rfl (s_end (k_seq (k_dec rfl (fun h1 => ?_) (fun h1 => ?_))))))
 ·obtain ⟨b, hb⟩ : ∃ b, bs[k]? = some b := ⟨_, List.getElem?_eq_getElem (by omega)⟩; refine k_skip (k_seq (k_block (k_seq (s_region ?_)))); have hat := (H.rd 1 rfl hA).at (j := k) (u := u8 b) (by simp [hb])
  refine s_do rfl rfl rfl (d_indexE rfl (z := 1) (j := k) (r := k) (by kernel_rfl) rfl rfl rfl (by omega) hat (by omega)) (s_do rfl rfl rfl (d_loadE rfl rfl (by kernel_rfl) (here hat)) (s_M 1 rfl rfl (s_end (s_region (s_M 1 rfl rfl (s_do rfl rfl rfl (d_shr32 rfl rfl (m := 8) (n' := 8) rfl (by decide)) (s_M 2 rfl rfl (s_do rfl rfl rfl (d_32to8 rfl (by kernel_rfl) rfl) (s_M 1 rfl rfl (s_do rfl rfl rfl (d_xor8 rfl rfl rfl) (s_Q 2 [3] rfl (by kernel_rfl) (s_do rfl rfl rfl (d_indexA (l := 256) rfl (z := 1) (j := ((((bs.take k).foldl crcByte (4294967295 ^^^ sum)).toUInt8) ^^^ b).toNat) (r := 3 + (((bs.take k).foldl crcByte (4294967295 ^^^ sum)).toUInt8 ^^^ b).toNat) (by kernel_rfl) rfl rfl rfl (UInt8.toNat_lt _) (by omega)) (s_do rfl rfl rfl (d_load rfl rfl (by kernel_rfl) (here (H.cel 0 rfl _ (tabC_word _ _ _ _)))) ?_))))))))))))); refine s_do rfl rfl rfl (d_xor32 rfl rfl rfl) (s_M 1 rfl rfl (s_end (s_region (s_do rfl rfl rfl (d_add64 rfl rfl rfl (r := (k : Int) + 1) (by omega) (by omega)) (s_M 1 rfl rfl (s_end ?_)))))); intro _ hF; refine ⟨(k + 1), (hF.co rfl (by go_num) (hF.co rfl (congrArg u32 (by rw [List.take_add_one, hb]; simp [crcByte])) (hF.all rfl))), ⟨H, ?_⟩, ?_⟩
  ·omega
  ·omega
 ·refine k_exit (k_here (k_seq (s_region (s_M 1 rfl rfl (s_do rfl rfl rfl (d_not32 rfl rfl) (s_M 1 rfl rfl (s_end (k_ret (doneL rfl [u32 (4294967295 ^^^ ((bs.take k).foldl crcByte (4294967295 ^^^ sum)))] ⟨rfl, trivial⟩ (v := u32 (4294967295 ^^^ ((bs.take k).foldl crcByte (4294967295 ^^^ sum)))) rfl ?_))))))))); obtain rfl : k = bs.length := by omega
  have H := H.mono 0 (B := tblA pt) rfl (fun h q => .inr q); exact ⟨[tblA pt, A], ⟨congrArg u32 (by simp [crcMore]), rfl⟩, H⟩
end Go.Proofs.YtbegkbjigbkljaaGreatDoor
namespace Go.Proofs.YtbegkbjigbkljaaGreatDoor
open Go.RowKit
theorem more0_c (pt : Nat) (v : Value) (bs : List UInt8) (A : Asn) (hA : ∀ h, A h → rdH 1 v bs.length (bs.map u8) h) : Cn Tryz.prog 137 [.pointer (some ⟨pt, 0, none⟩), .int .u32 0, v] [tblA pt, A] (fun v Γ => v = u32 (crcSum bs) ∧ Γ = [tblA pt, A]) := by
  have h := more_c pt 0 v bs A hA
  rw [show u32 0 = Value.int .u32 0 from rfl] at h
  exact h
theorem sum_c (pt : Nat) (v : Value) (n : Nat) (bs : List UInt8) (hn : bs.length = n) (A : Asn) (hA : ∀ h, A h → rdH 1 v n (bs.map u8) h) : Cn Tryz.prog 150 [.pointer (some ⟨pt, 0, none⟩), v] [tblA pt, A] (fun v Γ => v = u32 (crcSum bs) ∧ Γ = [tblA pt, A]) := by
 intro z R w H'; have H : Sep z (tblA pt :: A :: R) w := H'
 clear H'; subst hn; refine enter Tryz.func150 rfl 8 Tryz.ntmps150 rfl (k_seq (s_region (s_M 1 rfl rfl (s_end (k_seq (s_region (s_M 2 rfl rfl (s_C rfl rfl rfl rfl rfl (fun w => Tryz.call137 _ w) (more0_c _ _ bs _ hA) H rfl ?_)))))))); rintro _ w _ ⟨rfl, rfl⟩ H'; have H := H'.l2; clear H'; refine s_M 1 rfl rfl (s_end (k_ret (doneL rfl [u32 (crcSum bs)] ⟨rfl, trivial⟩ (v := u32 (crcSum bs)) rfl ?_))); exact ⟨[tblA pt, A], ⟨rfl, rfl⟩, H⟩
theorem csum_c (pt : Nat) (v : Value) (n : Nat) (bs : List UInt8) (hn : bs.length = n) (A : Asn) (hA : ∀ h, A h → rdH 1 v n (bs.map u8) h) : Cn Tryz.prog 132 [.pointer (some ⟨pt, 0, none⟩), v] [tblA pt, A] (fun v Γ => v = .agg #[u8 ((crcSum bs).toUInt8), u8 (((crcSum bs) >>> 8).toUInt8), u8 (((crcSum bs) >>> 16).toUInt8), u8 (((crcSum bs) >>> 24).toUInt8)] ∧ Γ = [tblA pt, A]) := by
 intro z R w H'; have H : Sep z (tblA pt :: A :: R) w := H'
 clear H'; refine enter Tryz.func132 rfl 21 Tryz.ntmps132 rfl (k_seq (s_region (s_go rfl rfl rfl (n_alloc (P := Tryz.prog) H rfl (zs := [u8 0, u8 0, u8 0, u8 0]) (by kernel_rfl)) ?_))); rintro _ w ⟨b1, rfl, H'⟩; have H := H'.l3; clear H'; refine s_end (k_seq (s_region (s_M 2 rfl rfl (s_C rfl rfl rfl rfl rfl (fun w => Tryz.call150 _ w) (sum_c _ _ _ bs (by omega) _ hA) H.f2.f2 rfl ?_)))); rintro _ w _ ⟨rfl, rfl⟩ H'; have H := H'.l3; clear H'; refine s_M 1 rfl rfl (s_end (k_seq (s_region (s_M 1 rfl rfl (s_do rfl rfl rfl (d_32to8 rfl (by kernel_rfl) rfl) (s_M 1 rfl rfl (s_do rfl rfl rfl (d_shr32 rfl rfl (m := 8) (n' := 8) rfl (by decide)) (s_do rfl rfl rfl (d_32to8 rfl (by kernel_rfl) rfl) (s_M 1 rfl rfl (s_do rfl rfl rfl (d_shr32 rfl rfl (m := 16) (n' := 16) rfl (by decide)) (s_do rfl rfl rfl (d_32to8 rfl (by kernel_rfl) rfl) (s_M 1 rfl rfl (s_do rfl rfl rfl (d_shr32 rfl rfl (m := 24) (n' := 24) rfl (by decide)) ?_))))))))))))); refine s_do rfl rfl rfl (d_32to8 rfl (by kernel_rfl) rfl) (s_do rfl rfl rfl (d_build rfl rfl (out := [u8 ((crcSum bs).toUInt8), u8 (((crcSum bs) >>> 8).toUInt8), u8 (((crcSum bs) >>> 16).toUInt8), u8 (((crcSum bs) >>> 24).toUInt8)]) (by kernel_rfl)) (s_put rfl rfl (n_store 2 H rfl rfl rfl rfl (vs := [u8 ((crcSum bs).toUInt8), u8 (((crcSum bs) >>> 8).toUInt8), u8 (((crcSum bs) >>> 16).toUInt8), u8 (((crcSum bs) >>> 24).toUInt8)]) rfl (by simp [u8, u32, Value.oneCell']) (by kernel_rfl) (by simp) (out := [u8 ((crcSum bs).toUInt8), u8 (((crcSum bs) >>> 8).toUInt8), u8 (((crcSum bs) >>> 16).toUInt8), u8 (((crcSum bs) >>> 24).toUInt8)]) rfl) ?_))
 rintro w H'; have H := H'.l3; clear H'; refine s_end (k_ret (doneL rfl [.agg #[u8 ((crcSum bs).toUInt8), u8 (((crcSum bs) >>> 8).toUInt8), u8 (((crcSum bs) >>> 16).toUInt8), u8 (((crcSum bs) >>> 24).toUInt8)]] ⟨⟨_, _, rfl, run_loadBlk (by kernel_rfl) (H.blk 2 rfl) (vs := [u8 ((crcSum bs).toUInt8), u8 (((crcSum bs) >>> 8).toUInt8), u8 (((crcSum bs) >>> 16).toUInt8), u8 (((crcSum bs) >>> 24).toUInt8)]) rfl⟩, trivial⟩ (v := .agg #[u8 ((crcSum bs).toUInt8), u8 (((crcSum bs) >>> 8).toUInt8), u8 (((crcSum bs) >>> 16).toUInt8), u8 (((crcSum bs) >>> 24).toUInt8)]) rfl ?_)); exact ⟨[tblA pt, A], ⟨rfl, rfl⟩, H.perm 3 [0, 1] rfl rfl⟩
theorem put_c (pw a k : Nat) (x : Int) (bs : List UInt8) (hb : bs.length = 256) (hk : a + k ≤ 256 ∧ k ≤ 8) : Cn Tryz.prog 140 [.pointer (some ⟨pw, 0, none⟩), .int .i64 x, .int .i64 (k : Int)] [blk pw (wrC bs (a : Int)) 209] (fun v Γ => v = .tuple #[] ∧ Γ = [blk pw (wrC (wrAll bs (beN k x) a) ((a + k : Nat) : Int)) 209]) := by
 intro z R w H'; have H : Sep z (blk pw (wrC bs (a : Int)) 209 :: R) w := H'
 clear H'; refine enter Tryz.func140 rfl 38 Tryz.ntmps140 rfl (k_seq (k_seq (s_region (s_M 2 rfl rfl (s_end (k_block ?_)))))); refine c_loop (σ := Nat) (fun i => [(8, .int .i64 (i : Int)), (0, .pointer (some ⟨pw, 0, none⟩)), (1, .int .i64 x), (2, .int .i64 (k : Int)), (7, .int .i64 (k : Int))])
   (fun i w => Sep z (blk pw (wrC (wrS bs (beN k x) a i) (a : Int)) 209 :: R) w ∧ (i ≤ k)) (fun i => k - i) 0
   (fun _ hF => (hF.co rfl (by go_num) (hF.all rfl))) ⟨(by rw [wrS_zero]; exact H), by omega⟩ ?_
 clear H; rintro i w ⟨H', hI⟩; have H := H'.l1; clear H'; have hik := hI; clear hI
 have hwl : (wrS bs (beN k x) a i).length = 256 := by rw [wrS_len (by omega) (by rw [beN_len]; omega)]; exact hb
 refine k_seq (s_region (s_M 1 rfl rfl (s_end (k_seq (k_dec rfl (fun h1 => ?_) (fun h1 => ?_))))))
 ·have hi : i < k := by omega
  refine k_skip (k_seq (k_block (k_seq (s_region (s_M 2 rfl rfl (s_end (t_region 18 (by kernel_rfl) (by kernel_rfl) (fun w' x' _ => ?_)))))))); have H' := H.ext0 x'; clear x' H; revert H'; generalize w' = w; intro H'
  have H := H'.l1; clear H'; refine t_M 4 [256] rfl (by kernel_rfl) (t_do rfl rfl rfl (d_load rfl rfl (by kernel_rfl) (here (H.cel 0 rfl 256 (wrC_at _ hwl)))) (t_M 1 [] rfl (by kernel_rfl) (t_do rfl rfl rfl (d_add64 rfl rfl rfl (r := ((a + i : Nat) : Int)) (by omega) (by omega)) (t_M 2 [] rfl (by kernel_rfl) (t_do rfl rfl rfl (d_sub64 rfl rfl rfl (r := (k : Int) - 1) (by omega) (by omega)) (t_M 1 [] rfl (by kernel_rfl) (t_do rfl rfl rfl (d_sub64 rfl rfl rfl (r := ((k - 1 - i : Nat) : Int)) (by omega) (by omega)) (t_do rfl rfl rfl (d_mul64 rfl rfl rfl (r := ((8 * (k - 1 - i) : Nat) : Int)) (by omega) (by omega)) (t_do rfl rfl rfl (d_shrI rfl rfl rfl (m := 8 * (k - 1 - i)) rfl (by omega)) (t_do rfl rfl rfl (d_to8 rfl (by kernel_rfl) rfl) (t_M 2 [0] rfl (by kernel_rfl) (t_do rfl rfl rfl (d_indexA (l := 256) rfl (z := 1) (j := (a + i)) (r := a + i) (by kernel_rfl) rfl rfl rfl (by omega) (by omega)) (t_end ?_))))))))))))); refine s_put rfl rfl (n_store 0 H rfl rfl rfl rfl (vs := [u8 (byt (x / 2 ^ (8 * (k - 1 - i))))]) rfl (by simp [u8, u32, Value.oneCell']) (by kernel_rfl) (by rw [wrC_len _ hwl]; simp; omega) (out := (wrC (wrS bs (beN k x) a (i + 1)) (a : Int))) (wrC_step _ (by rw [beN_len]; omega) (beN_get x hi))) ?_; rintro w H'; have H := H'.l1; clear H'; refine s_end (s_region (s_do rfl rfl rfl (d_add64 rfl rfl rfl (r := (i : Int) + 1) (by omega) (by omega)) (s_M 1 rfl rfl (s_end ?_)))); intro _ hF; refine ⟨(i + 1), (hF.co rfl (by go_num) (hF.all rfl)), ⟨H, ?_⟩, ?_⟩
  ·omega
  ·omega
 ·obtain rfl : i = k := by omega
  rw [wrS_all bs (beN i x) a (by rw [beN_len])] at H; have hwl2 : (wrAll bs (beN i x) a).length = 256 := by rw [wrAll_len (by rw [beN_len]; omega)]; exact hb
  refine k_exit (k_here (s_region (s_Q 3 [256] rfl (by kernel_rfl) (s_do rfl rfl rfl (d_load rfl rfl (by kernel_rfl) (here (H.cel 0 rfl 256 (wrC_at _ hwl2)))) (s_M 1 rfl rfl (s_do rfl rfl rfl (d_add64 rfl rfl rfl (r := ((a + i : Nat) : Int)) (by omega) (by omega)) (s_Q 2 [256] rfl (by kernel_rfl) (s_put rfl rfl (n_store 0 H rfl rfl rfl rfl (vs := [.int .i64 ((a + i : Nat) : Int)]) rfl (by simp [u8, u32, Value.oneCell']) (by kernel_rfl) (by rw [wrC_len _ hwl2]; simp) (out := (wrC (wrAll bs (beN i x) a) ((a + i : Nat) : Int))) (wrC_set _ _ hwl2)) ?_)))))))); rintro w H'; have H := H'.l1; clear H'; refine s_end (doneL rfl [] trivial (v := .tuple #[]) rfl ?_); exact ⟨[blk pw (wrC (wrAll bs (beN i x) a) ((a + i : Nat) : Int)) 209], ⟨rfl, rfl⟩, H⟩
end Go.Proofs.YtbegkbjigbkljaaGreatDoor
namespace Go.Proofs.YtbegkbjigbkljaaGreatDoor
open Go.RowKit
theorem text_c (pw a : Nat) (s bs : List UInt8) (hb : bs.length = 256) (hk : a + s.length ≤ 256 ∧ a < 256) : Cn Tryz.prog 139 [.pointer (some ⟨pw, 0, none⟩), str s] [blk pw (wrC bs (a : Int)) 209] (fun v Γ => v = .tuple #[] ∧ Γ = [blk pw (wrC (wrAll bs s a) ((a + s.length : Nat) : Int)) 209]) := by
 intro z R w H'; have H : Sep z (blk pw (wrC bs (a : Int)) 209 :: R) w := H'
 clear H'; refine enter Tryz.func139 rfl 21 Tryz.ntmps139 rfl (l_region (Sep z (wrH pw (a : Int) :: R)) 18 rfl (by kernel_rfl) (fun w' x' _ => ?_)); have H' := H.ext0 x'; clear x' H; revert H'; generalize w' = w; intro H'
 have H := H'.l1; clear H'; refine l_L [0, 1, 2] [256] (by kernel_rfl) (fun _ _ => mm0) (by exact (H.mono 0 (B := wrH pw (a : Int)) rfl (fun h q => ⟨_, hb, q⟩))) rfl (by kernel_rfl) rfl rfl (l_do 3 (by kernel_rfl) rfl rfl (by kernel_rfl) (by kernel_rfl) (by kernel_rfl) rfl rfl rfl (d_load rfl rfl (by kernel_rfl) (fun _ hx => hx.cell 0 rfl (fun h q => wrH.at q))) (H.mono 0 (B := wrH pw (a : Int)) rfl (fun h q => ⟨_, hb, q⟩)) (l_L [4, 5, 6, 7, 8, 9] [0, 256] (by kernel_rfl) (fun _ _ => mm0) (by exact (H.mono 0 (B := wrH pw (a : Int)) rfl (fun h q => ⟨_, hb, q⟩))) rfl (by kernel_rfl) rfl rfl (l_do 10 (by kernel_rfl) rfl rfl (by kernel_rfl) (by kernel_rfl) (by kernel_rfl) rfl rfl rfl (d_load rfl rfl (by kernel_rfl) (fun _ hx => hx.cell 0 rfl (fun h q => wrH.at q))) (H.mono 0 (B := wrH pw (a : Int)) rfl (fun h q => ⟨_, hb, q⟩)) (l_do 11 (by kernel_rfl) rfl rfl (by kernel_rfl) (by kernel_rfl) (by kernel_rfl) rfl rfl rfl (d_sliceR rfl (n' := 256) (z := 1) (p := a) (q := 256) (o' := a) (l' := 256 - a) (c' := 256 - a) (by kernel_rfl) rfl (.inr ⟨_, _, _, rfl, rfl, rfl⟩) (.inl ⟨rfl, rfl⟩) (by omega) (by omega) (by omega) (by omega) (by omega) (by omega)) (H.mono 0 (B := wrH pw (a : Int)) rfl (fun h q => ⟨_, hb, q⟩)) (l_L [12] [] (by kernel_rfl) (fun _ _ => mm0) (by exact (H.mono 0 (B := wrH pw (a : Int)) rfl (fun h q => ⟨_, hb, q⟩))) rfl (by kernel_rfl) rfl rfl (l_all [13] (by kernel_rfl) (by simp) (all1 (o_go rfl rfl rfl rfl (n_copy 0 H rfl rfl (by kernel_rfl) rfl rfl (m := s.length) (news := (s.map u8)) (.inr ⟨s, rfl, rfl, rfl⟩) (by simp [u8, Value.oneCell']) (by rw [wrC_len _ hb]; omega) (k := s.length) (by omega) (out := (wrC (wrAll bs s a) (a : Int))) (wrC_copy _ (by omega) rfl)) ?_))))))))
 rintro _ w ⟨rfl, H'⟩; have H := H'.l1; clear H'; refine l_and (fun _ => (H.mono 0 (B := wrH pw (a : Int)) rfl (fun h q => ⟨_, ((wrAll_len (by omega)).trans hb), q⟩))) (l_do 14 (by kernel_rfl) rfl rfl (by kernel_rfl) (by kernel_rfl) (by kernel_rfl) rfl rfl rfl (d_add64 rfl rfl rfl (r := ((a + s.length : Nat) : Int)) (by omega) (by omega)) (H.mono 0 (B := wrH pw (a : Int)) rfl (fun h q => ⟨_, ((wrAll_len (by omega)).trans hb), q⟩)) (l_L [15, 16] [256] (by kernel_rfl) (fun _ _ => mm0) (by exact (H.mono 0 (B := wrH pw (a : Int)) rfl (fun h q => ⟨_, ((wrAll_len (by omega)).trans hb), q⟩))) rfl (by kernel_rfl) rfl rfl (l_all [17] (by kernel_rfl) (by simp) (all1 (o_put rfl rfl rfl (n_store 0 H rfl rfl rfl rfl (vs := [.int .i64 ((a + s.length : Nat) : Int)]) rfl (by simp [u8, u32, Value.oneCell']) (by kernel_rfl) (by rw [wrC_len _ ((wrAll_len (by omega)).trans hb)]; simp) (out := (wrC (wrAll bs s a) ((a + s.length : Nat) : Int))) (wrC_set _ _ ((wrAll_len (by omega)).trans hb))) ?_))))); rintro w H'; have H := H'.l1; clear H'; refine l_and (fun h => absurd rfl h) (l_done (by kernel_rfl) (doneL rfl [] trivial (v := .tuple #[]) rfl ?_)); exact ⟨[blk pw (wrC (wrAll bs s a) ((a + s.length : Nat) : Int)) 209], ⟨rfl, rfl⟩, H⟩
theorem framed_c (pw pt : Nat) (a : Int) (bs : List UInt8) (hb : bs.length = 256) : Cn Tryz.prog 141 [.pointer (some ⟨pw, 0, none⟩), .pointer (some ⟨pt, 0, none⟩)] [blk pw (wrC bs (a : Int)) 209, tblA pt] (fun v Γ => v = .slice (some ⟨pw, 0, none⟩) 256 256 ∧ Γ = [blk pw (wrC (frm bs) (a : Int)) 209, tblA pt]) := by
 intro z R w H'; have H : Sep z (blk pw (wrC bs (a : Int)) 209 :: tblA pt :: R) w := H'
 clear H'; refine enter Tryz.func141 rfl 22 Tryz.ntmps141 rfl (k_seq (s_region (s_M 1 rfl rfl (s_end (k_seq (s_region (s_Q 4 [0] rfl (by kernel_rfl) (s_do rfl rfl rfl (d_sliceR rfl (n' := 256) (z := 1) (p := 0) (q := 252) (o' := 0) (l' := 252) (c' := 256) (by kernel_rfl) rfl (.inl ⟨rfl, rfl⟩) (.inr ⟨_, _, _, rfl, rfl, rfl⟩) (by omega) (by omega) (by omega) (by omega) (by omega) (by omega)) (s_C rfl rfl rfl rfl rfl (fun w => Tryz.call132 _ w) (csum_c _ _ _ (bs.take 252) (by simp [hb]) _ (fun h q => wrC_rd q hb (by omega) (by omega) (by omega) (by simp))) H.f1 rfl ?_))))))))); rintro _ w _ ⟨rfl, rfl⟩ H'; have H := H'.l2; clear H'; refine s_go rfl rfl rfl (n_alloc (P := Tryz.prog) H rfl (zs := [u8 0, u8 0, u8 0, u8 0]) (by kernel_rfl)) ?_; rintro _ w ⟨b1, rfl, H'⟩; have H := H'.l3; clear H'; refine s_put rfl rfl (n_store 0 H rfl rfl rfl rfl (vs := [u8 ((crcSum (bs.take 252)).toUInt8), u8 (((crcSum (bs.take 252)) >>> 8).toUInt8), u8 (((crcSum (bs.take 252)) >>> 16).toUInt8), u8 (((crcSum (bs.take 252)) >>> 24).toUInt8)]) rfl (by simp [u8, u32, Value.oneCell']) (by kernel_rfl) (by simp) (out := [u8 ((crcSum (bs.take 252)).toUInt8), u8 (((crcSum (bs.take 252)) >>> 8).toUInt8), u8 (((crcSum (bs.take 252)) >>> 16).toUInt8), u8 (((crcSum (bs.take 252)) >>> 24).toUInt8)]) rfl) ?_; rintro w H'; have H := H'.l3; clear H'; refine s_end (k_seq (t_region 5 (by kernel_rfl) (by kernel_rfl) (fun w' x' _ => ?_))); have H' := H.ext0 x'; clear x' H; revert H'; generalize w' = w; intro H'
 have H := H'.l3; clear H'; refine t_M 3 [0] rfl (by kernel_rfl) (t_do rfl rfl rfl (d_sliceR rfl (n' := 256) (z := 1) (p := 252) (q := 256) (o' := 252) (l' := 4) (c' := 4) (by kernel_rfl) rfl (.inr ⟨_, _, _, rfl, rfl, rfl⟩) (.inl ⟨rfl, rfl⟩) (by omega) (by omega) (by omega) (by omega) (by omega) (by omega)) (t_do rfl rfl rfl (d_sliceR rfl (n' := 4) (z := 1) (p := 0) (q := 4) (o' := 0) (l' := 4) (c' := 4) (by kernel_rfl) rfl (.inl ⟨rfl, rfl⟩) (.inl ⟨rfl, rfl⟩) (by omega) (by omega) (by omega) (by omega) (by omega) (by omega)) (t_end (s_go rfl rfl rfl (n_copy 2 H rfl rfl (by kernel_rfl) rfl rfl (m := 4) (news := ((sumB (crcSum (bs.take 252))).map u8)) (.inl (H.rd 0 rfl (fun h q => q.rd (by omega) (by omega) (by simp) rfl))) (by simp [sumB, u8, Value.oneCell']) (by rw [wrC_len _ hb]; omega) (k := 4) (by omega) (out := (wrC (frm bs) (a : Int))) (wrC_copy _ (by simp [sumB, hb]) rfl)) ?_)))); rintro _ w ⟨rfl, H'⟩; have H := H'.l3; clear H'; refine s_end (k_seq (s_region (s_Q 3 [0] rfl (by kernel_rfl) (s_do rfl rfl rfl (d_sliceR rfl (n' := 256) (z := 1) (p := 0) (q := 256) (o' := 0) (l' := 256) (c' := 256) (by kernel_rfl) rfl (.inl ⟨rfl, rfl⟩) (.inl ⟨rfl, rfl⟩) (by omega) (by omega) (by omega) (by omega) (by omega) (by omega)) (s_M 1 rfl rfl (s_end (k_ret (doneL rfl [.slice (some ⟨pw, 0, none⟩) 256 256] ⟨rfl, trivial⟩ (v := .slice (some ⟨pw, 0, none⟩) 256 256) rfl ?_)))))))); exact ⟨[blk pw (wrC (frm bs) (a : Int)) 209, tblA pt], ⟨rfl, rfl⟩, H.perm 3 [2, 1] rfl rfl⟩
theorem get_c (k : Nat) (pr b o n c : Nat) (xs : List UInt8) (A : Asn) (hA : ∀ h, A h → rdH 1 (.slice (some ⟨b, o, none⟩) n c) n (xs.map u8) h) (hn : n < c) (hk : k ≤ n) (ys : List UInt8) (hy : xs.take k = ys) (o2 n2 c2 : Nat) (h1 : o + k = o2) (h2 : n - k = n2) (h3 : c - k = c2) : Cn Tryz.prog 100 [.pointer (some ⟨pr, 0, none⟩), .int .i64 (k : Int)] [blk pr [.slice (some ⟨b, o, none⟩) n c] 155, A] (fun v Γ => v = .int .i64 (getI ys) ∧ Γ = [blk pr [.slice (some ⟨b, o2, none⟩) n2 c2] 155, A]) := by
 intro z R w H'; have H : Sep z (blk pr [.slice (some ⟨b, o, none⟩) n c] 155 :: A :: R) w := H'
 clear H'; subst hy h1 h2 h3; have hxl := H.says 1 rfl (fun h q => (hA h q).len)
 have hcb := H.says 1 rfl (fun h q => (hA h q).cap)
 refine enter Tryz.func100 rfl 35 Tryz.ntmps100 rfl (k_seq (s_region (s_M 1 rfl rfl (s_end (k_seq (s_region (s_M 1 rfl rfl (s_end (k_seq (k_seq (s_region (s_L 5 [0, 0] (mm1 (H.blk 0 rfl) mm0) rfl (by kernel_rfl) rfl (s_do rfl rfl rfl (d_sliceC rfl (z := 1) (p := 0) (q := k) (o' := o) (l' := k) (c' := c) (by kernel_rfl) rfl (.inl ⟨rfl, rfl⟩) (.inr ⟨_, _, _, rfl, rfl, rfl⟩) (by omega) (by omega) (by omega) (by omega) (by omega) (by omega)) ?_))))))))))))); refine s_do rfl rfl rfl (d_len rfl (z := 1) (by kernel_rfl) rfl) (s_M 1 rfl rfl (s_end (k_block ?_))); refine c_loop (σ := Nat) (fun j => [(15, .int .i64 (j : Int)), (5, .int .i64 (getI (xs.take j))), (0, .pointer (some ⟨pr, 0, none⟩)), (1, .int .i64 (k : Int)), (4, .int .i64 0), (13, .slice (some ⟨b, o, none⟩) k c), (14, .int .i64 (k : Int))])
   (fun j w => Sep z (blk pr [.slice (some ⟨b, o, none⟩) n c] 155 :: A :: R) w ∧ (j ≤ k)) (fun j => k - j) 0
   (fun _ hF => (hF.co rfl (by go_num) (hF.co rfl (by go_num) (hF.all rfl)))) ⟨H, by omega⟩ ?_
 clear H; rintro j w ⟨H', hI⟩; have H := H'.l2; clear H'; have hjk := hI; clear hI
 refine k_seq (s_region (s_M 1 rfl rfl (s_end (k_seq (k_dec rfl (fun h1 => ?_) (fun h1 => ?_))))))
 ·obtain ⟨x, hx⟩ : ∃ x, xs[j]? = some x := ⟨_, List.getElem?_eq_getElem (by omega)⟩; refine k_skip (k_seq (k_block (k_seq (s_region (s_do rfl rfl rfl (d_index rfl (z := 1) (j := j) (r := o + j) (by kernel_rfl) rfl rfl rfl (by omega) (by omega)) (s_do rfl rfl rfl (d_load rfl rfl (by kernel_rfl) (here (H.cell 1 rfl (fun h q => (hA h q).at hx)))) (s_M 1 rfl rfl (s_end (s_region (s_M 1 rfl rfl (s_do rfl rfl rfl (d_shlI rfl rfl rfl (m := 8) rfl (by decide)) (s_M 1 rfl rfl (s_do rfl rfl rfl (d_of8 rfl (by kernel_rfl) rfl) ?_))))))))))))); refine s_do rfl rfl rfl (d_orI rfl rfl rfl (getI_low _) ⟨by omega, by have := x.toNat_lt; omega⟩) (s_M 1 rfl rfl (s_end (s_region (s_do rfl rfl rfl (d_add64 rfl rfl rfl (r := (j : Int) + 1) (by omega) (by omega)) (s_M 1 rfl rfl (s_end ?_)))))); intro _ hF; refine ⟨(j + 1), (hF.co rfl (by go_num) (hF.co rfl (congrArg (Value.int .i64) (getI_step hx)) (hF.all rfl))), ⟨H, ?_⟩, ?_⟩
  ·omega
  ·omega
 ·obtain rfl : j = k := by omega
  refine k_exit (k_here (k_seq (s_region (s_L 6 [0, 0] (mm1 (H.blk 0 rfl) mm0) rfl (by kernel_rfl) rfl (s_do rfl rfl rfl (d_sliceC rfl (z := 1) (p := j) (q := n) (o' := o + j) (l' := n - j) (c' := c - j) (by kernel_rfl) rfl (.inr ⟨_, _, _, rfl, rfl, rfl⟩) (.inl ⟨rfl, rfl⟩) (by omega) (by omega) (by omega) (by omega) (by omega) (by omega)) (s_Q 2 [0] rfl (by kernel_rfl) (s_put rfl rfl (n_store 0 H rfl rfl rfl rfl (vs := [.slice (some ⟨b, (o + j), none⟩) (n - j) (c - j)]) rfl (by simp [u8, u32, Value.oneCell']) (by kernel_rfl) (by simp) (out := [.slice (some ⟨b, (o + j), none⟩) (n - j) (c - j)]) rfl) ?_))))))); rintro w H'; have H := H'.l2; clear H'; refine s_end (k_seq (s_region (s_M 2 rfl rfl (s_end (k_ret (doneL rfl [.int .i64 (getI (xs.take j))] ⟨rfl, trivial⟩ (v := .int .i64 (getI (xs.take j))) rfl ?_)))))); exact ⟨[blk pr [.slice (some ⟨b, (o + j), none⟩) (n - j) (c - j)] 155, A], ⟨rfl, rfl⟩, H⟩
end Go.Proofs.YtbegkbjigbkljaaGreatDoor
namespace Go.Proofs.YtbegkbjigbkljaaGreatDoor
open Go.RowKit
theorem trimR_c (b o n c : Nat) (xs : List UInt8) (A : Asn) (hA : ∀ h, A h → rdH 1 (.slice (some ⟨b, o, none⟩) n c) n (xs.map u8) h) (hn : n < c) : Cn Tryz.prog 167 [.slice (some ⟨b, o, none⟩) n c, u8 0] [A] (fun v Γ => v = .slice (some ⟨b, o, none⟩) (rz xs) c ∧ Γ = [A]) := by
 intro z R w H'; have H : Sep z (A :: R) w := H'
 clear H'; have hxl := H.says 0 rfl (fun h q => (hA h q).len)
 have hcb := H.says 0 rfl (fun h q => (hA h q).cap)
 refine enter Tryz.func167 rfl 24 Tryz.ntmps167 rfl (k_seq (s_region (s_M 1 rfl rfl (s_end (k_seq (k_block ?_)))))); refine c_loop (σ := Nat) (fun m => [(0, .slice (some ⟨b, o, none⟩) m c), (1, u8 0), (4, .slice none 0 0)])
   (fun m w => Sep z (A :: R) w ∧ (m ≤ n ∧ ∀ (j : Nat) (y : UInt8), m ≤ j → xs[j]? = some y → y = 0)) (fun m => m) n
   (fun _ hF => (hF.all rfl)) ⟨H, Nat.le_refl _, fun j y hj h => by have := (List.getElem?_eq_some_iff.1 h).1; omega⟩ ?_
 clear H; rintro m w ⟨H', hI⟩; have H := H'.l1; clear H'; obtain ⟨hm, hz⟩ := hI; refine k_seq (k_seq (s_region (s_M 1 rfl rfl (s_do rfl rfl rfl (d_len rfl (z := 1) (by kernel_rfl) rfl) (s_M 2 rfl rfl (s_part 8 rfl (fun h1 => ?_) (fun h1 => ?_)))))))
 ·obtain ⟨x, hx⟩ : ∃ x, xs[m - 1]? = some x := ⟨_, List.getElem?_eq_getElem (by omega)⟩; refine s_M 2 rfl rfl (s_do rfl rfl rfl (d_len rfl (z := 1) (by kernel_rfl) rfl) (s_do rfl rfl rfl (d_sub64 rfl rfl rfl (r := ((m - 1 : Nat) : Int)) (by omega) (by omega)) (s_do rfl rfl rfl (d_index rfl (z := 1) (j := (m - 1)) (r := o + (m - 1)) (by kernel_rfl) rfl rfl rfl (by omega) (by omega)) (s_do rfl rfl rfl (d_load rfl rfl (by kernel_rfl) (here (H.cell 0 rfl (fun h q => (hA h q).at hx)))) (s_M 1 rfl rfl (s_do rfl rfl rfl (d_eql8 (q := 0) (k := .u8) rfl (by kernel_rfl) rfl rfl) (s_M 1 rfl rfl (s_end (k_dec rfl (fun h2 => ?_) (fun h2 => ?_))))))))))
  ·refine k_skip (k_block (s_region (s_M 2 rfl rfl (s_do rfl rfl rfl (d_len rfl (z := 1) (by kernel_rfl) rfl) (s_do rfl rfl rfl (d_sub64 rfl rfl rfl (r := ((m - 1 : Nat) : Int)) (by omega) (by omega)) (s_do rfl rfl rfl (d_sliceC rfl (z := 1) (p := 0) (q := (m - 1)) (o' := o) (l' := (m - 1)) (c' := c) (by kernel_rfl) rfl (.inl ⟨rfl, rfl⟩) (.inr ⟨_, _, _, rfl, rfl, rfl⟩) (by omega) (by omega) (by omega) (by omega) (by omega) (by omega)) (s_M 1 rfl rfl (s_end ?_)))))))); intro _ hF; refine ⟨(m - 1), (hF.all rfl), ⟨H, ?_⟩, ?_⟩
   ·refine ⟨by omega, fun j y hj h => ?_⟩; rcases Nat.lt_or_ge j m with q | q
    ·obtain rfl : j = m - 1 := by omega
     rw [hx] at h; cases h; exact h2
    ·exact hz j y q h
   ·omega
  ·refine k_exit (k_here (k_seq (s_region (s_M 2 rfl rfl (s_end (k_ret (doneL rfl [.slice (some ⟨b, o, none⟩) m c] ⟨rfl, trivial⟩ (v := .slice (some ⟨b, o, none⟩) m c) rfl ?_))))))); obtain rfl : m = rz xs := rz_is (by omega) hz (by first | exact .inl (by omega) | exact .inr ⟨x, hx, h2⟩); exact ⟨[A], ⟨rfl, rfl⟩, H⟩
 ·refine s_M 9 rfl rfl (s_end (k_false rfl (k_exit (k_here (k_seq (s_region (s_M 2 rfl rfl (s_end (k_ret (doneL rfl [.slice (some ⟨b, o, none⟩) m c] ⟨rfl, trivial⟩ (v := .slice (some ⟨b, o, none⟩) m c) rfl ?_)))))))))); obtain rfl : m = rz xs := rz_is (by omega) hz (by first | exact .inl (by omega) | exact .inr ⟨x, hx, h2⟩); exact ⟨[A], ⟨rfl, rfl⟩, H⟩
theorem trimL_c (b o n c : Nat) (xs : List UInt8) (A : Asn) (hA : ∀ h, A h → rdH 1 (.slice (some ⟨b, o, none⟩) n c) n (xs.map u8) h) (hn : n < c) : Cn Tryz.prog 166 [.slice (some ⟨b, o, none⟩) n c, u8 0] [A] (fun v Γ => v = (if lz xs = n then .slice none 0 0 else .slice (some ⟨b, o + lz xs, none⟩) (n - lz xs) (c - lz xs)) ∧ Γ = [A]) := by
 intro z R w H'; have H : Sep z (A :: R) w := H'
 clear H'; have hxl := H.says 0 rfl (fun h q => (hA h q).len)
 have hcb := H.says 0 rfl (fun h q => (hA h q).cap)
 refine enter Tryz.func166 rfl 21 Tryz.ntmps166 rfl (k_seq (s_region (s_M 1 rfl rfl (s_end (k_seq (k_block ?_)))))); refine c_loop (σ := Nat) (fun p => [(0, .slice (some ⟨b, (o + p), none⟩) (n - p) (c - p)), (1, u8 0), (4, .slice none 0 0)])
   (fun p w => Sep z (A :: R) w ∧ (p ≤ n ∧ ∀ (j : Nat) (y : UInt8), j < p → xs[j]? = some y → y = 0)) (fun p => n - p) 0
   (fun _ hF => (hF.co rfl (by go_num) (hF.all rfl))) ⟨H, by omega, fun j y hj h => by omega⟩ ?_
 clear H; rintro p w ⟨H', hI⟩; have H := H'.l1; clear H'; obtain ⟨hp, hz⟩ := hI; refine k_seq (k_seq (s_region (s_M 1 rfl rfl (s_do rfl rfl rfl (d_len rfl (z := 1) (by kernel_rfl) rfl) (s_M 2 rfl rfl (s_part 8 rfl (fun h1 => ?_) (fun h1 => ?_)))))))
 ·obtain ⟨x, hx⟩ : ∃ x, xs[p]? = some x := ⟨_, List.getElem?_eq_getElem (by omega)⟩; refine s_M 1 rfl rfl (s_do rfl rfl rfl (d_index rfl (z := 1) (j := 0) (r := o + p) (by kernel_rfl) rfl rfl rfl (by omega) (by omega)) (s_do rfl rfl rfl (d_load rfl rfl (by kernel_rfl) (here (H.cell 0 rfl (fun h q => (hA h q).at hx)))) (s_M 1 rfl rfl (s_do rfl rfl rfl (d_eql8 (q := 0) (k := .u8) rfl (by kernel_rfl) rfl rfl) (s_M 1 rfl rfl (s_end (k_dec rfl (fun h2 => ?_) (fun h2 => ?_))))))))
  ·refine k_skip (k_block (s_region (s_M 1 rfl rfl (s_do rfl rfl rfl (d_sliceC rfl (z := 1) (p := 1) (q := (n - p)) (o' := o + (p + 1)) (l' := (n - (p + 1))) (c' := (c - (p + 1))) (by kernel_rfl) rfl (.inr ⟨_, _, _, rfl, rfl, rfl⟩) (.inl ⟨rfl, rfl⟩) (by omega) (by omega) (by omega) (by omega) (by omega) (by omega)) (s_M 1 rfl rfl (s_end ?_)))))); intro _ hF; refine ⟨(p + 1), (hF.all rfl), ⟨H, ?_⟩, ?_⟩
   ·refine ⟨by omega, fun j y hj h => ?_⟩; rcases Nat.lt_or_ge j p with q | q
    ·exact hz j y q h
    ·obtain rfl : j = p := by omega
     rw [hx] at h; cases h; exact h2
   ·omega
  ·refine k_exit (k_here (k_seq (k_seq (s_region (s_M 1 rfl rfl (s_do rfl rfl rfl (d_len rfl (z := 1) (by kernel_rfl) rfl) (s_M 1 rfl rfl (s_end (k_dec rfl (fun h3 => ?_) (fun h3 => ?_))))))))))
   ·refine k_seq (s_region (s_M 1 rfl rfl (s_end (k_ret (doneL rfl [.slice none 0 0] ⟨rfl, trivial⟩ (v := .slice none 0 0) rfl ?_))))); obtain rfl : p = lz xs := lz_is (by omega) hz (by first | exact .inl (by omega) | exact .inr ⟨x, hx, h2⟩); exact ⟨[A], ⟨by first | (exfalso; omega) | rw [if_pos (by omega)] | rw [if_neg (by omega)], rfl⟩, H⟩
   ·refine k_skip (k_seq (s_region (s_M 2 rfl rfl (s_end (k_ret (doneL rfl [.slice (some ⟨b, (o + p), none⟩) (n - p) (c - p)] ⟨rfl, trivial⟩ (v := .slice (some ⟨b, (o + p), none⟩) (n - p) (c - p)) rfl ?_)))))); obtain rfl : p = lz xs := lz_is (by omega) hz (by first | exact .inl (by omega) | exact .inr ⟨x, hx, h2⟩); exact ⟨[A], ⟨by first | (exfalso; omega) | rw [if_pos (by omega)] | rw [if_neg (by omega)], rfl⟩, H⟩
 ·refine s_M 6 rfl rfl (s_end (k_false rfl (k_exit (k_here (k_seq (k_seq (s_region (s_M 1 rfl rfl (s_do rfl rfl rfl (d_len rfl (z := 1) (by kernel_rfl) rfl) (s_M 1 rfl rfl (s_end (k_dec rfl (fun h4 => ?_) (fun h4 => ?_)))))))))))))
  ·refine k_seq (s_region (s_M 1 rfl rfl (s_end (k_ret (doneL rfl [.slice none 0 0] ⟨rfl, trivial⟩ (v := .slice none 0 0) rfl ?_))))); obtain rfl : p = lz xs := lz_is (by omega) hz (by first | exact .inl (by omega) | exact .inr ⟨x, hx, h2⟩); exact ⟨[A], ⟨by first | (exfalso; omega) | rw [if_pos (by omega)] | rw [if_neg (by omega)], rfl⟩, H⟩
  ·refine k_skip (k_seq (s_region (s_M 2 rfl rfl (s_end (k_ret (doneL rfl [.slice (some ⟨b, (o + p), none⟩) (n - p) (c - p)] ⟨rfl, trivial⟩ (v := .slice (some ⟨b, (o + p), none⟩) (n - p) (c - p)) rfl ?_)))))); obtain rfl : p = lz xs := lz_is (by omega) hz (by first | exact .inl (by omega) | exact .inr ⟨x, hx, h2⟩); exact ⟨[A], ⟨by first | (exfalso; omega) | rw [if_pos (by omega)] | rw [if_neg (by omega)], rfl⟩, H⟩
theorem trim_c (b o n c : Nat) (xs : List UInt8) (A : Asn) (hA : ∀ h, A h → rdH 1 (.slice (some ⟨b, o, none⟩) n c) n (xs.map u8) h) (hn : n < c) : Cn Tryz.prog 152 [.slice (some ⟨b, o, none⟩) n c, str [0]] [A] (fun v Γ => (rz xs = 0 ∧ v = .slice none 0 0 ∧ Γ = [A]) ∨ (rz xs ≠ 0 ∧ ∃ o1 k1 c1, 0 < k1 ∧ v = .slice (some ⟨b, o1, none⟩) k1 c1 ∧ Γ = [A])) := by
 intro z R w H'; have H : Sep z (A :: R) w := H'
 clear H'; have hxl := H.says 0 rfl (fun h q => (hA h q).len)
 have hcb := H.says 0 rfl (fun h q => (hA h q).cap)
 have hrz := rz_le xs
 refine enter Tryz.func152 rfl 42 Tryz.ntmps152 rfl (k_seq (s_region (s_M 1 rfl rfl (s_end (k_seq (k_seq (s_region (s_M 1 rfl rfl (s_do rfl rfl rfl (d_len rfl (z := 1) (by kernel_rfl) rfl) (s_M 1 rfl rfl (s_end (k_dec rfl (fun h1 => ?_) (fun h1 => ?_)))))))))))))
 ·refine k_seq (s_region (s_M 1 rfl rfl (s_end (k_ret (doneL rfl [.slice none 0 0] ⟨rfl, trivial⟩ (v := .slice none 0 0) rfl ?_))))); exact ⟨[A], .inl ⟨by omega, rfl, rfl⟩, H⟩
 ·refine k_skip (k_seq (k_seq (s_region (s_M 1 rfl rfl (s_do rfl rfl rfl (d_eqlS (l := [0]) (m := []) rfl (by kernel_rfl) rfl rfl) (k_updA 11 (u := .bool (decide (([0] : List UInt8) = []))) (v := .bool false) rfl (congrArg Value.bool (by decide)) (s_end (k_false rfl (k_skip (k_seq (k_seq (s_region (s_M 1 rfl rfl ?_))))))))))))); refine s_do rfl rfl rfl (d_lenStr (l := [0]) rfl (by kernel_rfl) rfl) (s_M 1 rfl rfl (k_updA 15 (u := .bool (decide ((1 : Int) = 1))) (v := .bool true) rfl (congrArg Value.bool (by decide)) (s_M 2 rfl rfl (s_do rfl rfl rfl (d_indexS (l := [0]) (j := 0) (b := 0) rfl (by kernel_rfl) rfl rfl rfl rfl) (s_M 1 rfl rfl (k_updA 19 (u := .bool (decide (((0 : UInt8).toNat : Int) < ((128 : UInt8).toNat : Int)))) (v := .bool true) rfl (congrArg Value.bool (by decide)) (s_M 1 rfl rfl (s_end (k_true rfl (k_seq (q_region (Sep z _) (by kernel_rfl) (by kernel_rfl) H.drew (q_M 2 [] rfl (by kernel_rfl) (q_do rfl rfl rfl (d_indexS (l := [0]) (j := 0) (b := 0) rfl (by kernel_rfl) rfl rfl rfl rfl) ?_))))))))))))); refine q_call rfl rfl rfl rfl rfl (fun w => Tryz.call167 _ w) (v := .slice (some ⟨b, o, none⟩) (rz xs) c) (cq (trimR_c _ _ _ _ xs _ hA hn) (by rintro _ _ ⟨rfl, rfl⟩; exact ⟨rfl, rfl⟩) 1 [0] [0] rfl rfl rfl rfl) (q_M 1 [] rfl (by kernel_rfl) (q_do rfl rfl rfl (d_indexS (l := [0]) (j := 0) (b := 0) rfl (by kernel_rfl) rfl rfl rfl rfl) (q_call rfl rfl rfl rfl rfl (fun w => Tryz.call166 _ w) (v := if lz ((xs.drop 0).take (rz xs)) = (rz xs) then .slice none 0 0 else .slice (some ⟨b, o + lz ((xs.drop 0).take (rz xs)), none⟩) ((rz xs) - lz ((xs.drop 0).take (rz xs))) (c - lz ((xs.drop 0).take (rz xs)))) (cq (trimL_c _ _ _ _ ((xs.drop 0).take (rz xs)) _ (fun h q => (hA h q).cut (lo := 0) (m := rz xs) (c' := c) (by omega) (by omega) (by omega)) (by omega)) (by rintro _ _ ⟨rfl, rfl⟩; exact ⟨rfl, rfl⟩) 1 [0] [0] rfl rfl rfl rfl) (q_M 1 [] rfl (by kernel_rfl) (q_end (fun w H' => ?_))))))
  have H := H'.l1; clear H'; refine k_ret (doneL rfl [if lz ((xs.drop 0).take (rz xs)) = (rz xs) then .slice none 0 0 else .slice (some ⟨b, o + lz ((xs.drop 0).take (rz xs)), none⟩) ((rz xs) - lz ((xs.drop 0).take (rz xs))) (c - lz ((xs.drop 0).take (rz xs)))] ⟨rfl, trivial⟩ (v := if lz ((xs.drop 0).take (rz xs)) = (rz xs) then .slice none 0 0 else .slice (some ⟨b, o + lz ((xs.drop 0).take (rz xs)), none⟩) ((rz xs) - lz ((xs.drop 0).take (rz xs))) (c - lz ((xs.drop 0).take (rz xs)))) rfl ?_); by_cases hz : rz xs = 0
  ·exact ⟨[A], .inl ⟨hz, by rw [if_pos]; simp [hz, lz], rfl⟩, H⟩
  ·have := lz_rz hz
   exact ⟨[A], .inr ⟨hz, _, rz xs - lz ((xs.drop 0).take (rz xs)), _, by simp; omega, by rw [if_neg (by simp; omega)], rfl⟩, H⟩
theorem bare_c (pr b o n c : Nat) (xs : List UInt8) (A : Asn) (hA : ∀ h, A h → rdH 1 (.slice (some ⟨b, o, none⟩) n c) n (xs.map u8) h) (hn : n < c) : Cn Tryz.prog 134 [.pointer (some ⟨pr, 0, none⟩)] [blk pr [.slice (some ⟨b, o, none⟩) n c] 155, A] (fun v Γ => v = .bool (decide (rz xs = 0)) ∧ Γ = [blk pr [.slice (some ⟨b, o, none⟩) n c] 155, A]) := by
 intro z R w H'; have H : Sep z (blk pr [.slice (some ⟨b, o, none⟩) n c] 155 :: A :: R) w := H'
 clear H'; refine enter Tryz.func134 rfl 10 Tryz.ntmps134 rfl (k_seq (s_region (s_M 1 rfl rfl (s_end (k_seq (s_region (s_L 4 [0, 0] (mm1 (H.blk 0 rfl) mm0) rfl (by kernel_rfl) rfl (s_C rfl rfl rfl rfl rfl (fun w => Tryz.call152 _ w) (trim_c _ _ _ _ xs _ hA hn) H.f1 rfl ?_)))))))); rintro _ w _ (⟨hz, rfl, rfl⟩ | ⟨hz, o1, k1, c1, hk1, rfl, rfl⟩) H'
 ·have H := H'.l2; clear H'; refine s_do rfl rfl rfl (d_len rfl (z := 1) (by kernel_rfl) rfl) (s_M 1 rfl rfl (k_updA 9 (u := .bool (decide ((0 : Int) = 0))) (v := .bool true) rfl (congrArg Value.bool (by decide)) (s_M 1 rfl rfl (s_end (k_ret (doneL rfl [.bool true] ⟨rfl, trivial⟩ (v := .bool true) rfl ?_)))))); exact ⟨[blk pr [.slice (some ⟨b, o, none⟩) n c] 155, A], ⟨congrArg Value.bool (by first | (simp [hz]; done) | (rw [Bool.eq_iff_iff]; simp <;> omega)), rfl⟩, H.perm 2 [1, 0] rfl rfl⟩
 ·have H := H'.l2; clear H'; refine s_do rfl rfl rfl (d_len rfl (z := 1) (by kernel_rfl) rfl) (s_M 2 rfl rfl (s_end (k_ret (doneL rfl [.bool (decide ((k1 : Int) = 0))] ⟨rfl, trivial⟩ (v := .bool (decide ((k1 : Int) = 0))) rfl ?_)))); exact ⟨[blk pr [.slice (some ⟨b, o, none⟩) n c] 155, A], ⟨congrArg Value.bool (by first | (simp [hz]; done) | (rw [Bool.eq_iff_iff]; simp <;> omega)), rfl⟩, H.perm 2 [1, 0] rfl rfl⟩
theorem sound_c (pt b o c : Nat) (mag sec : List UInt8) (A : Asn) (hA : ∀ h, A h → rdH 1 (.slice (some ⟨b, o, none⟩) 256 c) 256 (sec.map u8) h) : Cn Tryz.prog 99 [.pointer (some ⟨pt, 0, none⟩), .slice (some ⟨b, o, none⟩) 256 c, str mag] [tblA pt, A] (fun v Γ => (sndP mag sec ∧ v = .tuple #[.agg #[.slice (some ⟨b, o + 4, none⟩) 248 (c - 4)], .bool true] ∧ Γ = [tblA pt, A]) ∨ (¬ sndP mag sec ∧ v = .tuple #[.agg #[.slice none 0 0], .bool false] ∧ Γ = [tblA pt, A])) := by
 intro z R w H'; have H : Sep z (tblA pt :: A :: R) w := H'
 clear H'; have hsl := H.says 1 rfl (fun h q => (hA h q).len)
 have hcb := H.says 1 rfl (fun h q => (hA h q).cap)
 obtain ⟨c0, c1, c2, c3, hd⟩ := four hsl; refine enter Tryz.func99 rfl 37 Tryz.ntmps99 rfl (k_seq (s_region (s_go rfl rfl rfl (n_alloc (P := Tryz.prog) H rfl (zs := [.slice none 0 0]) (by kernel_rfl)) ?_))); rintro _ w ⟨b1, rfl, H'⟩; have H := H'.l3; clear H'; refine s_M 1 rfl rfl (s_end (k_seq (k_seq (q_region (Sep z _) (by kernel_rfl) (by kernel_rfl) H.drew (q_M 1 [] rfl (by kernel_rfl) (q_do rfl rfl rfl (d_eql_pn rfl (by kernel_rfl) rfl rfl) (q_M 2 [] rfl (by kernel_rfl) (q_do rfl rfl rfl (d_len rfl (z := 1) (by kernel_rfl) rfl) (q_M 1 [] rfl (by kernel_rfl) (k_updA 13 (u := .bool (decide ((256 : Int) ≠ 256))) (v := .bool false) rfl (congrArg Value.bool (by decide)) (q_M 3 [] rfl (by kernel_rfl) (q_do rfl rfl rfl (d_sliceC rfl (z := 1) (p := 252) (q := 256) (o' := o + 252) (l' := 4) (c' := c - 252) (by kernel_rfl) rfl (.inr ⟨_, _, _, rfl, rfl, rfl⟩) (.inl ⟨rfl, rfl⟩) (by omega) (by omega) (by omega) (by omega) (by omega) (by omega)) (q_do rfl rfl rfl (d_arrayAt (m := 4) rfl (by kernel_rfl) rfl (by omega)) ?_))))))))))))); refine q_do rfl rfl rfl (d_loadAgg rfl rfl (vs := [u8 c0, u8 c1, u8 c2, u8 c3]) (by kernel_rfl) (fun _ hx => hx.cell4 2 rfl hA hd)) (q_M 2 [] rfl (by kernel_rfl) (q_do rfl rfl rfl (d_sliceC rfl (z := 1) (p := 0) (q := 252) (o' := o) (l' := 252) (c' := c) (by kernel_rfl) rfl (.inl ⟨rfl, rfl⟩) (.inr ⟨_, _, _, rfl, rfl, rfl⟩) (by omega) (by omega) (by omega) (by omega) (by omega) (by omega)) (q_call rfl rfl rfl rfl rfl (fun w => Tryz.call132 _ w) (v := .agg #[u8 ((crcSum (sec.take 252)).toUInt8), u8 (((crcSum (sec.take 252)) >>> 8).toUInt8), u8 (((crcSum (sec.take 252)) >>> 16).toUInt8), u8 (((crcSum (sec.take 252)) >>> 24).toUInt8)]) (cq (csum_c _ _ _ (sec.take 252) (by simp [hsl]) _ (fun h q => (hA h q).pre (by omega) (by omega))) (by rintro _ _ ⟨rfl, rfl⟩; exact ⟨rfl, rfl⟩) 3 [1, 2, 0] [2, 0, 1] rfl rfl rfl rfl) (q_do rfl rfl rfl (d_neqA4 rfl (by kernel_rfl) (by kernel_rfl) rfl rfl) (q_M 2 [] rfl (by kernel_rfl) (q_part 26 rfl (fun h1 => ?_) (fun h1 => ?_)))))))
 ·refine q_M 6 [] rfl (by kernel_rfl) (q_end (fun w H' => ?_)); have H := H'.l3; clear H'; refine k_true rfl (k_seq (s_region (s_do rfl rfl rfl (d_build rfl rfl (out := [.slice none 0 0]) (by kernel_rfl)) (s_put rfl rfl (n_store 0 H rfl rfl rfl rfl (vs := [.slice none 0 0]) rfl (by simp [u8, u32, Value.oneCell']) (by kernel_rfl) (by simp) (out := [.slice none 0 0]) rfl) ?_)))); rintro w H'; have H := H'.l3; clear H'; refine s_M 1 rfl rfl (s_end (k_ret (doneL rfl [.agg #[.slice none 0 0], .bool false] ⟨⟨_, _, rfl, run_loadBlk (by kernel_rfl) (H.blk 0 rfl) (vs := [.slice none 0 0]) rfl⟩, ⟨rfl, trivial⟩⟩ (v := .tuple #[.agg #[.slice none 0 0], .bool false]) rfl ?_))); exact ⟨[tblA pt, A], .inr ⟨fun hs => by first | exact absurd (hd ▸ hs.1) ‹_› | exact absurd hs.2 ‹_›, rfl, rfl⟩, H.perm 3 [1, 2] rfl rfl⟩
 ·refine q_M 1 [] rfl (by kernel_rfl) (q_do rfl rfl rfl (d_sliceC rfl (z := 1) (p := 0) (q := 4) (o' := o) (l' := 4) (c' := c) (by kernel_rfl) rfl (.inl ⟨rfl, rfl⟩) (.inr ⟨_, _, _, rfl, rfl, rfl⟩) (by omega) (by omega) (by omega) (by omega) (by omega) (by omega)) (q_do rfl rfl rfl (d_bytesStr (l := sec.take 4) rfl (by kernel_rfl) (by kernel_rfl) rfl (fun _ hx => hx.rd 2 rfl (fun h q => by have := (hA h q).pre (m := 4) (c' := c) (by omega) (by omega); rwa [show (sec.take 4).length = 4 from by simp [hsl]]))) (q_M 1 [] rfl (by kernel_rfl) (q_do rfl rfl rfl (d_neqS (l := sec.take 4) (m := mag) rfl (by kernel_rfl) rfl rfl) (q_M 1 [] rfl (by kernel_rfl) (q_end (fun w H' => ?_))))))); have H := H'.l3; clear H'; refine k_dec rfl (fun h2 => ?_) (fun h2 => ?_)
  ·refine k_seq (s_region (s_do rfl rfl rfl (d_build rfl rfl (out := [.slice none 0 0]) (by kernel_rfl)) (s_put rfl rfl (n_store 0 H rfl rfl rfl rfl (vs := [.slice none 0 0]) rfl (by simp [u8, u32, Value.oneCell']) (by kernel_rfl) (by simp) (out := [.slice none 0 0]) rfl) ?_))); rintro w H'; have H := H'.l3; clear H'; refine s_M 1 rfl rfl (s_end (k_ret (doneL rfl [.agg #[.slice none 0 0], .bool false] ⟨⟨_, _, rfl, run_loadBlk (by kernel_rfl) (H.blk 0 rfl) (vs := [.slice none 0 0]) rfl⟩, ⟨rfl, trivial⟩⟩ (v := .tuple #[.agg #[.slice none 0 0], .bool false]) rfl ?_))); exact ⟨[tblA pt, A], .inr ⟨fun hs => by first | exact absurd (hd ▸ hs.1) ‹_› | exact absurd hs.2 ‹_›, rfl, rfl⟩, H.perm 3 [1, 2] rfl rfl⟩
  ·refine k_skip (k_seq (s_region (s_M 1 rfl rfl (s_do rfl rfl rfl (d_sliceC rfl (z := 1) (p := 4) (q := 252) (o' := o + 4) (l' := 248) (c' := c - 4) (by kernel_rfl) rfl (.inr ⟨_, _, _, rfl, rfl, rfl⟩) (.inr ⟨_, _, _, rfl, rfl, rfl⟩) (by omega) (by omega) (by omega) (by omega) (by omega) (by omega)) (s_do rfl rfl rfl (d_build rfl rfl (out := [.slice (some ⟨b, (o + 4), none⟩) 248 (c - 4)]) (by kernel_rfl)) (s_put rfl rfl (n_store 0 H rfl rfl rfl rfl (vs := [.slice (some ⟨b, (o + 4), none⟩) 248 (c - 4)]) rfl (by simp [u8, u32, Value.oneCell']) (by kernel_rfl) (by simp) (out := [.slice (some ⟨b, (o + 4), none⟩) 248 (c - 4)]) rfl) ?_)))))); rintro w H'; have H := H'.l3; clear H'; refine s_M 1 rfl rfl (s_end (k_ret (doneL rfl [.agg #[.slice (some ⟨b, (o + 4), none⟩) 248 (c - 4)], .bool true] ⟨⟨_, _, rfl, run_loadBlk (by kernel_rfl) (H.blk 0 rfl) (vs := [.slice (some ⟨b, (o + 4), none⟩) 248 (c - 4)]) rfl⟩, ⟨rfl, trivial⟩⟩ (v := .tuple #[.agg #[.slice (some ⟨b, (o + 4), none⟩) 248 (c - 4)], .bool true]) rfl ?_))); exact ⟨[tblA pt, A], .inl ⟨⟨by rw [hd]; exact Decidable.of_not_not ‹_›, Decidable.of_not_not ‹_›⟩, rfl, rfl⟩, H.perm 3 [1, 2] rfl rfl⟩
end Go.Proofs.YtbegkbjigbkljaaGreatDoor
namespace Go.Proofs.YtbegkbjigbkljaaGreatDoor
open Go.RowKit
theorem putImage_c (pt : Nat) (x y num kind : Int) (bv : Value) (body : List UInt8) (A : Asn) (hA : ∀ h, A h → rdH 1 bv body.length (body.map u8) h) : Cn Tryz.prog 149 [.pointer (some ⟨pt, 0, none⟩), .int .i64 x, .int .i64 y, .agg #[.int .i64 num, .int .i64 kind, bv]] [tblA pt, A] (fun v Γ => (¬ ((0 ≤ x ∧ x ≤ 4294967295) ∧ (0 ≤ y ∧ y ≤ 1099511627775) ∧ (0 ≤ num ∧ num ≤ 1023) ∧ (1 ≤ kind ∧ kind ≤ 5) ∧ body.length = 240) ∧ v = .tuple #[.slice none 0 0, .int .i64 1] ∧ Γ = [tblA pt, A]) ∨ (((0 ≤ x ∧ x ≤ 4294967295) ∧ (0 ≤ y ∧ y ≤ 1099511627775) ∧ (0 ≤ num ∧ num ≤ 1023) ∧ (1 ≤ kind ∧ kind ≤ 5) ∧ body.length = 240) ∧ ∃ pw, v = .tuple #[.slice (some ⟨pw, 0, none⟩) 256 256, .int .i64 0] ∧ Γ = [blk pw (wrC (sect (beN 1 kind ++ beN 2 num ++ beN 4 x ++ beN 5 y ++ body)) 252) 209, tblA pt, A])) := by
 intro z R w H'; have H : Sep z (tblA pt :: A :: R) w := H'
 clear H'; obtain ⟨ao, bc, rfl⟩ := H.says 1 rfl (fun h q => (hA h q).slc); refine enter Tryz.func149 rfl 66 Tryz.ntmps149 rfl (k_seq (s_region (s_go rfl rfl rfl (n_box H rfl rfl (cs := [.int .i64 num, .int .i64 kind, .slice ao body.length bc]) rfl) ?_))); rintro _ w ⟨b1, rfl, H'⟩; have H := H'.l3; clear H'; refine s_M 2 rfl rfl (s_end (k_seq (k_seq (s_region (s_M 1 rfl rfl (s_do rfl rfl rfl (d_eql_pn rfl (by kernel_rfl) rfl rfl) (s_M 2 rfl rfl (s_C rfl rfl rfl rfl rfl (fun w => Tryz.call101 _ w) (in_c _ _) H rfl ?_)))))))); rintro _ w _ ⟨rfl, rfl⟩ H'; have H := H'.l3; clear H'; refine s_do rfl rfl rfl (d_not_dec rfl rfl) (s_M 2 rfl rfl (s_part 18 rfl (fun h1 => ?_) (fun h1 => ?_)))
 ·refine s_M 29 rfl rfl (s_end (k_true rfl (k_seq (s_region (s_M 2 rfl rfl (s_end (k_ret (doneL rfl [.slice none 0 0, .int .i64 1] ⟨rfl, ⟨rfl, trivial⟩⟩ (v := .tuple #[.slice none 0 0, .int .i64 1]) rfl ?_)))))))); exact ⟨[tblA pt, A], .inl ⟨by omega, rfl, rfl⟩, H.perm 3 [1, 2] rfl rfl⟩
 ·refine s_M 1 rfl rfl (s_C rfl rfl rfl rfl rfl (fun w => Tryz.call101 _ w) (in_c _ _) H rfl ?_); rintro _ w _ ⟨rfl, rfl⟩ H'; have H := H'.l3; clear H'; refine s_do rfl rfl rfl (d_not_dec rfl rfl) (s_M 2 rfl rfl (s_part 23 rfl (fun h2 => ?_) (fun h2 => ?_)))
  ·refine s_M 24 rfl rfl (s_end (k_true rfl (k_seq (s_region (s_M 2 rfl rfl (s_end (k_ret (doneL rfl [.slice none 0 0, .int .i64 1] ⟨rfl, ⟨rfl, trivial⟩⟩ (v := .tuple #[.slice none 0 0, .int .i64 1]) rfl ?_)))))))); exact ⟨[tblA pt, A], .inl ⟨by omega, rfl, rfl⟩, H.perm 3 [1, 2] rfl rfl⟩
  ·refine s_L 2 [0, 0] (mm1 (H.blk 0 rfl) mm0) rfl (by kernel_rfl) rfl (s_C rfl rfl rfl rfl rfl (fun w => Tryz.call101 _ w) (in_c _ _) H rfl ?_); rintro _ w _ ⟨rfl, rfl⟩ H'; have H := H'.l3; clear H'; refine s_do rfl rfl rfl (d_not_dec rfl rfl) (s_M 2 rfl rfl (s_part 29 rfl (fun h3 => ?_) (fun h3 => ?_)))
   ·refine s_M 18 rfl rfl (s_end (k_true rfl (k_seq (s_region (s_M 2 rfl rfl (s_end (k_ret (doneL rfl [.slice none 0 0, .int .i64 1] ⟨rfl, ⟨rfl, trivial⟩⟩ (v := .tuple #[.slice none 0 0, .int .i64 1]) rfl ?_)))))))); exact ⟨[tblA pt, A], .inl ⟨by omega, rfl, rfl⟩, H.perm 3 [1, 2] rfl rfl⟩
   ·refine s_L 6 [1, 1, 0] (mm1 (H.blk 0 rfl) mm0) rfl (by kernel_rfl) rfl (s_part 35 rfl (fun h4 => ?_) (fun h4 => ?_))
    ·refine s_M 12 rfl rfl (s_end (k_true rfl (k_seq (s_region (s_M 2 rfl rfl (s_end (k_ret (doneL rfl [.slice none 0 0, .int .i64 1] ⟨rfl, ⟨rfl, trivial⟩⟩ (v := .tuple #[.slice none 0 0, .int .i64 1]) rfl ?_)))))))); exact ⟨[tblA pt, A], .inl ⟨by omega, rfl, rfl⟩, H.perm 3 [1, 2] rfl rfl⟩
    ·refine s_L 6 [1, 1, 0] (mm1 (H.blk 0 rfl) mm0) rfl (by kernel_rfl) rfl (s_part 41 rfl (fun h5 => ?_) (fun h5 => ?_))
     ·refine s_M 6 rfl rfl (s_end (k_true rfl (k_seq (s_region (s_M 2 rfl rfl (s_end (k_ret (doneL rfl [.slice none 0 0, .int .i64 1] ⟨rfl, ⟨rfl, trivial⟩⟩ (v := .tuple #[.slice none 0 0, .int .i64 1]) rfl ?_)))))))); exact ⟨[tblA pt, A], .inl ⟨by omega, rfl, rfl⟩, H.perm 3 [1, 2] rfl rfl⟩
     ·refine s_L 3 [1, 2, 0] (mm1 (H.blk 0 rfl) mm0) rfl (by kernel_rfl) rfl (s_do rfl rfl rfl (d_len rfl (z := 1) (by kernel_rfl) rfl) (s_M 2 rfl rfl (s_end (k_dec rfl (fun h6 => ?_) (fun h6 => ?_)))))
      ·refine k_seq (s_region (s_M 2 rfl rfl (s_end (k_ret (doneL rfl [.slice none 0 0, .int .i64 1] ⟨rfl, ⟨rfl, trivial⟩⟩ (v := .tuple #[.slice none 0 0, .int .i64 1]) rfl ?_))))); exact ⟨[tblA pt, A], .inl ⟨by omega, rfl, rfl⟩, H.perm 3 [1, 2] rfl rfl⟩
      ·have hbl : body.length = 240 := by omega
       refine k_skip (k_seq (s_region (s_go rfl rfl rfl (n_alloc (P := Tryz.prog) H rfl (zs := (wrC (pad []) 0)) (by kernel_rfl)) ?_))); rintro _ w ⟨b2, rfl, H'⟩; have H := H'.l4; clear H'; refine s_end (k_seq (s_region (s_L 3 [1, 1, 0] (mm1 (H.blk 1 rfl) mm0) rfl (by kernel_rfl) rfl (s_C rfl rfl rfl rfl rfl (fun w => Tryz.call140 _ w) (put_c _ 0 1 kind _ (pad_len (by first | omega | (simp [beN_len] <;> omega))) (by omega)) H rfl ?_)))); rintro _ w _ ⟨rfl, rfl⟩ H'; have H := H'.l4; clear H'; rw [show wrAll (pad []) (beN 1 kind) 0 = pad (beN 1 kind) from pad_put rfl (by first | omega | (simp [beN_len] <;> omega))] at H; have H : Sep z (blk b2 (wrC (pad (beN 1 kind)) 1) 209 :: blk b1 [.int .i64 num, .int .i64 kind, .slice ao body.length bc] 98 :: tblA pt :: A :: R) w := H
       refine s_end (k_seq (s_region (s_L 2 [0, 0] (mm1 (H.blk 1 rfl) mm0) rfl (by kernel_rfl) rfl (s_C rfl rfl rfl rfl rfl (fun w => Tryz.call140 _ w) (put_c _ 1 2 num _ (pad_len (by first | omega | (simp [beN_len] <;> omega))) (by omega)) H rfl ?_)))); rintro _ w _ ⟨rfl, rfl⟩ H'; have H := H'.l4; clear H'; rw [show wrAll (pad (beN 1 kind)) (beN 2 num) 1 = pad (beN 1 kind ++ beN 2 num) from pad_put (by first | omega | (simp [beN_len] <;> omega)) (by first | omega | (simp [beN_len] <;> omega))] at H; have H : Sep z (blk b2 (wrC (pad (beN 1 kind ++ beN 2 num)) 3) 209 :: blk b1 [.int .i64 num, .int .i64 kind, .slice ao body.length bc] 98 :: tblA pt :: A :: R) w := H
       refine s_end (k_seq (s_region (s_M 1 rfl rfl (s_C rfl rfl rfl rfl rfl (fun w => Tryz.call140 _ w) (put_c _ 3 4 x _ (pad_len (by first | omega | (simp [beN_len] <;> omega))) (by omega)) H rfl ?_)))); rintro _ w _ ⟨rfl, rfl⟩ H'; have H := H'.l4; clear H'; rw [show wrAll (pad (beN 1 kind ++ beN 2 num)) (beN 4 x) 3 = pad (beN 1 kind ++ beN 2 num ++ beN 4 x) from pad_put (by first | omega | (simp [beN_len] <;> omega)) (by first | omega | (simp [beN_len] <;> omega))] at H; have H : Sep z (blk b2 (wrC (pad (beN 1 kind ++ beN 2 num ++ beN 4 x)) 7) 209 :: blk b1 [.int .i64 num, .int .i64 kind, .slice ao body.length bc] 98 :: tblA pt :: A :: R) w := H
       refine s_end (k_seq (s_region (s_M 1 rfl rfl (s_C rfl rfl rfl rfl rfl (fun w => Tryz.call140 _ w) (put_c _ 7 5 y _ (pad_len (by first | omega | (simp [beN_len] <;> omega))) (by omega)) H rfl ?_)))); rintro _ w _ ⟨rfl, rfl⟩ H'; have H := H'.l4; clear H'; rw [show wrAll (pad (beN 1 kind ++ beN 2 num ++ beN 4 x)) (beN 5 y) 7 = pad (beN 1 kind ++ beN 2 num ++ beN 4 x ++ beN 5 y) from pad_put (by first | omega | (simp [beN_len] <;> omega)) (by first | omega | (simp [beN_len] <;> omega))] at H; have H : Sep z (blk b2 (wrC (pad (beN 1 kind ++ beN 2 num ++ beN 4 x ++ beN 5 y)) 12) 209 :: blk b1 [.int .i64 num, .int .i64 kind, .slice ao body.length bc] 98 :: tblA pt :: A :: R) w := H
       refine s_end (k_seq (s_region (s_L 3 [1, 2, 0] (mm1 (H.blk 1 rfl) mm0) rfl (by kernel_rfl) rfl (s_do rfl rfl rfl (d_bytesStr (l := body) rfl (by kernel_rfl) (by kernel_rfl) rfl (here (H.rd 3 rfl hA))) (s_C rfl rfl rfl rfl rfl (fun w => Tryz.call139 _ w) (text_c _ 12 body _ (pad_len (by first | omega | (simp [beN_len] <;> omega))) (by first | omega | (simp <;> omega))) H rfl ?_))))); rintro _ w _ ⟨rfl, rfl⟩ H'; have H := H'.l4; clear H'; rw [show ((12 + body.length : Nat) : Int) = (252 : Int) from by omega] at H; rw [show wrAll (pad (beN 1 kind ++ beN 2 num ++ beN 4 x ++ beN 5 y)) body 12 = pad (beN 1 kind ++ beN 2 num ++ beN 4 x ++ beN 5 y ++ body) from pad_put (by first | omega | (simp [beN_len] <;> omega)) (by first | omega | (simp [beN_len] <;> omega))] at H; have H : Sep z (blk b2 (wrC (pad (beN 1 kind ++ beN 2 num ++ beN 4 x ++ beN 5 y ++ body)) 252) 209 :: blk b1 [.int .i64 num, .int .i64 kind, .slice ao body.length bc] 98 :: tblA pt :: A :: R) w := H
       refine s_end (k_seq (s_region (s_M 1 rfl rfl (s_C rfl rfl rfl rfl rfl (fun w => Tryz.call141 _ w) (framed_c _ _ _ _ (pad_len (by first | omega | (simp [beN_len] <;> omega)))) H.f2.f1 rfl ?_)))); rintro _ w _ ⟨rfl, rfl⟩ H'; have H := H'.l4; clear H'; refine s_M 2 rfl rfl (s_end (k_ret (doneL rfl [.slice (some ⟨b2, 0, none⟩) 256 256, .int .i64 0] ⟨rfl, ⟨rfl, trivial⟩⟩ (v := .tuple #[.slice (some ⟨b2, 0, none⟩) 256 256, .int .i64 0]) rfl ?_))); exact ⟨[blk b2 (wrC (sect (beN 1 kind ++ beN 2 num ++ beN 4 x ++ beN 5 y ++ body)) 252) 209, tblA pt, A], .inr ⟨by omega, b2, rfl, rfl⟩, H.perm 4 [0, 1, 3] rfl rfl⟩
theorem putPage_c (pt : Nat) (num kind : Int) (bv : Value) (body : List UInt8) (A : Asn) (hA : ∀ h, A h → rdH 1 bv body.length (body.map u8) h) : Cn Tryz.prog 107 [.pointer (some ⟨pt, 0, none⟩), .agg #[.int .i64 num, .int .i64 kind, bv]] [tblA pt, A] (fun v Γ => (¬ ((0 ≤ num ∧ num ≤ 1023) ∧ (1 ≤ kind ∧ kind ≤ 5) ∧ body.length = 240) ∧ v = .tuple #[.slice none 0 0, .int .i64 1] ∧ Γ = [tblA pt, A]) ∨ (((0 ≤ num ∧ num ≤ 1023) ∧ (1 ≤ kind ∧ kind ≤ 5) ∧ body.length = 240) ∧ ∃ pw, v = .tuple #[.slice (some ⟨pw, 0, none⟩) 256 256, .int .i64 0] ∧ Γ = [blk pw (wrC (sect ([80, 80, 65, 71] ++ beN 1 kind ++ beN 4 num ++ [0, 0, 0] ++ body)) 252) 209, tblA pt, A])) := by
 intro z R w H'; have H : Sep z (tblA pt :: A :: R) w := H'
 clear H'; obtain ⟨ao, bc, rfl⟩ := H.says 1 rfl (fun h q => (hA h q).slc); refine enter Tryz.func107 rfl 50 Tryz.ntmps107 rfl (k_seq (s_region (s_go rfl rfl rfl (n_box H rfl rfl (cs := [.int .i64 num, .int .i64 kind, .slice ao body.length bc]) rfl) ?_))); rintro _ w ⟨b1, rfl, H'⟩; have H := H'.l3; clear H'; refine s_M 2 rfl rfl (s_end (k_seq (k_seq (s_region (s_M 1 rfl rfl (s_do rfl rfl rfl (d_eql_pn rfl (by kernel_rfl) rfl rfl) (s_L 3 [0, 0] (mm1 (H.blk 0 rfl) mm0) rfl (by kernel_rfl) rfl (s_C rfl rfl rfl rfl rfl (fun w => Tryz.call101 _ w) (in_c _ _) H rfl ?_)))))))); rintro _ w _ ⟨rfl, rfl⟩ H'; have H := H'.l3; clear H'; refine s_do rfl rfl rfl (d_not_dec rfl rfl) (s_M 2 rfl rfl (s_part 15 rfl (fun h1 => ?_) (fun h1 => ?_)))
 ·refine s_M 18 rfl rfl (s_end (k_true rfl (k_seq (s_region (s_M 2 rfl rfl (s_end (k_ret (doneL rfl [.slice none 0 0, .int .i64 1] ⟨rfl, ⟨rfl, trivial⟩⟩ (v := .tuple #[.slice none 0 0, .int .i64 1]) rfl ?_)))))))); exact ⟨[tblA pt, A], .inl ⟨by omega, rfl, rfl⟩, H.perm 3 [1, 2] rfl rfl⟩
 ·refine s_L 6 [1, 1, 0] (mm1 (H.blk 0 rfl) mm0) rfl (by kernel_rfl) rfl (s_part 21 rfl (fun h2 => ?_) (fun h2 => ?_))
  ·refine s_M 12 rfl rfl (s_end (k_true rfl (k_seq (s_region (s_M 2 rfl rfl (s_end (k_ret (doneL rfl [.slice none 0 0, .int .i64 1] ⟨rfl, ⟨rfl, trivial⟩⟩ (v := .tuple #[.slice none 0 0, .int .i64 1]) rfl ?_)))))))); exact ⟨[tblA pt, A], .inl ⟨by omega, rfl, rfl⟩, H.perm 3 [1, 2] rfl rfl⟩
  ·refine s_L 6 [1, 1, 0] (mm1 (H.blk 0 rfl) mm0) rfl (by kernel_rfl) rfl (s_part 27 rfl (fun h3 => ?_) (fun h3 => ?_))
   ·refine s_M 6 rfl rfl (s_end (k_true rfl (k_seq (s_region (s_M 2 rfl rfl (s_end (k_ret (doneL rfl [.slice none 0 0, .int .i64 1] ⟨rfl, ⟨rfl, trivial⟩⟩ (v := .tuple #[.slice none 0 0, .int .i64 1]) rfl ?_)))))))); exact ⟨[tblA pt, A], .inl ⟨by omega, rfl, rfl⟩, H.perm 3 [1, 2] rfl rfl⟩
   ·refine s_L 3 [1, 2, 0] (mm1 (H.blk 0 rfl) mm0) rfl (by kernel_rfl) rfl (s_do rfl rfl rfl (d_len rfl (z := 1) (by kernel_rfl) rfl) (s_M 2 rfl rfl (s_end (k_dec rfl (fun h4 => ?_) (fun h4 => ?_)))))
    ·refine k_seq (s_region (s_M 2 rfl rfl (s_end (k_ret (doneL rfl [.slice none 0 0, .int .i64 1] ⟨rfl, ⟨rfl, trivial⟩⟩ (v := .tuple #[.slice none 0 0, .int .i64 1]) rfl ?_))))); exact ⟨[tblA pt, A], .inl ⟨by omega, rfl, rfl⟩, H.perm 3 [1, 2] rfl rfl⟩
    ·have hbl : body.length = 240 := by omega
     refine k_skip (k_seq (s_region (s_go rfl rfl rfl (n_alloc (P := Tryz.prog) H rfl (zs := (wrC (pad []) 0)) (by kernel_rfl)) ?_))); rintro _ w ⟨b2, rfl, H'⟩; have H := H'.l4; clear H'; refine s_end (k_seq (s_region (s_C rfl rfl rfl rfl rfl (fun w => Tryz.call139 _ w) (text_c _ 0 [80, 80, 65, 71] _ (pad_len (by first | omega | (simp [beN_len] <;> omega))) (by first | omega | (simp <;> omega))) H rfl ?_))); rintro _ w _ ⟨rfl, rfl⟩ H'; have H := H'.l4; clear H'; rw [show wrAll (pad []) ([80, 80, 65, 71]) 0 = pad ([80, 80, 65, 71]) from pad_put rfl (by first | omega | (simp [beN_len] <;> omega))] at H; have H : Sep z (blk b2 (wrC (pad ([80, 80, 65, 71])) 4) 209 :: blk b1 [.int .i64 num, .int .i64 kind, .slice ao body.length bc] 98 :: tblA pt :: A :: R) w := H
     refine s_end (k_seq (s_region (s_L 3 [1, 1, 0] (mm1 (H.blk 1 rfl) mm0) rfl (by kernel_rfl) rfl (s_C rfl rfl rfl rfl rfl (fun w => Tryz.call140 _ w) (put_c _ 4 1 kind _ (pad_len (by first | omega | (simp [beN_len] <;> omega))) (by omega)) H rfl ?_)))); rintro _ w _ ⟨rfl, rfl⟩ H'; have H := H'.l4; clear H'; rw [show wrAll (pad ([80, 80, 65, 71])) (beN 1 kind) 4 = pad ([80, 80, 65, 71] ++ beN 1 kind) from pad_put (by first | omega | (simp [beN_len] <;> omega)) (by first | omega | (simp [beN_len] <;> omega))] at H; have H : Sep z (blk b2 (wrC (pad ([80, 80, 65, 71] ++ beN 1 kind)) 5) 209 :: blk b1 [.int .i64 num, .int .i64 kind, .slice ao body.length bc] 98 :: tblA pt :: A :: R) w := H
     refine s_end (k_seq (s_region (s_L 2 [0, 0] (mm1 (H.blk 1 rfl) mm0) rfl (by kernel_rfl) rfl (s_C rfl rfl rfl rfl rfl (fun w => Tryz.call140 _ w) (put_c _ 5 4 num _ (pad_len (by first | omega | (simp [beN_len] <;> omega))) (by omega)) H rfl ?_)))); rintro _ w _ ⟨rfl, rfl⟩ H'; have H := H'.l4; clear H'; rw [show wrAll (pad ([80, 80, 65, 71] ++ beN 1 kind)) (beN 4 num) 5 = pad ([80, 80, 65, 71] ++ beN 1 kind ++ beN 4 num) from pad_put (by first | omega | (simp [beN_len] <;> omega)) (by first | omega | (simp [beN_len] <;> omega))] at H; have H : Sep z (blk b2 (wrC (pad ([80, 80, 65, 71] ++ beN 1 kind ++ beN 4 num)) 9) 209 :: blk b1 [.int .i64 num, .int .i64 kind, .slice ao body.length bc] 98 :: tblA pt :: A :: R) w := H
     refine s_end (k_seq (s_region (s_Q 1 [256] rfl (by kernel_rfl) (s_put rfl rfl (n_store 0 H rfl rfl rfl rfl (vs := [.int .i64 12]) rfl (by simp [u8, u32, Value.oneCell']) (by kernel_rfl) (by rw [wrC_len _ (pad_len (by first | omega | (simp [beN_len] <;> omega)))]; simp) (out := (wrC (pad ([80, 80, 65, 71] ++ beN 1 kind ++ beN 4 num)) 12)) (wrC_set _ _ (pad_len (by first | omega | (simp [beN_len] <;> omega))))) ?_)))); rintro w H'; have H := H'.l4; clear H'; refine s_end (k_seq (s_region (s_L 3 [1, 2, 0] (mm1 (H.blk 1 rfl) mm0) rfl (by kernel_rfl) rfl (s_do rfl rfl rfl (d_bytesStr (l := body) rfl (by kernel_rfl) (by kernel_rfl) rfl (here (H.rd 3 rfl hA))) (s_C rfl rfl rfl rfl rfl (fun w => Tryz.call139 _ w) (text_c _ 12 body _ (pad_len (by first | omega | (simp [beN_len] <;> omega))) (by first | omega | (simp <;> omega))) H rfl ?_))))); rintro _ w _ ⟨rfl, rfl⟩ H'; have H := H'.l4; clear H'; rw [show ((12 + body.length : Nat) : Int) = (252 : Int) from by omega] at H; rw [show wrAll (pad ([80, 80, 65, 71] ++ beN 1 kind ++ beN 4 num)) body 12 = pad ([80, 80, 65, 71] ++ beN 1 kind ++ beN 4 num ++ [0, 0, 0] ++ body) from (pad_jump (by first | omega | (simp [beN_len] <;> omega)) (by first | omega | (simp [beN_len] <;> omega))).trans (by simp [beN_len])] at H; have H : Sep z (blk b2 (wrC (pad ([80, 80, 65, 71] ++ beN 1 kind ++ beN 4 num ++ [0, 0, 0] ++ body)) 252) 209 :: blk b1 [.int .i64 num, .int .i64 kind, .slice ao body.length bc] 98 :: tblA pt :: A :: R) w := H
     refine s_end (k_seq (s_region (s_M 1 rfl rfl (s_C rfl rfl rfl rfl rfl (fun w => Tryz.call141 _ w) (framed_c _ _ _ _ (pad_len (by first | omega | (simp [beN_len] <;> omega)))) H.f2.f1 rfl ?_)))); rintro _ w _ ⟨rfl, rfl⟩ H'; have H := H'.l4; clear H'; refine s_M 2 rfl rfl (s_end (k_ret (doneL rfl [.slice (some ⟨b2, 0, none⟩) 256 256, .int .i64 0] ⟨rfl, ⟨rfl, trivial⟩⟩ (v := .tuple #[.slice (some ⟨b2, 0, none⟩) 256 256, .int .i64 0]) rfl ?_))); exact ⟨[blk b2 (wrC (sect ([80, 80, 65, 71] ++ beN 1 kind ++ beN 4 num ++ [0, 0, 0] ++ body)) 252) 209, tblA pt, A], .inr ⟨by omega, b2, rfl, rfl⟩, H.perm 4 [0, 1, 3] rfl rfl⟩
end Go.Proofs.YtbegkbjigbkljaaGreatDoor
namespace Go.Proofs.YtbegkbjigbkljaaGreatDoor
open Go.RowKit
theorem putHead_c (pt : Nat) (e s : Int) (u : UInt32) (pv : Value) (ns : List Int) (A : Asn) (hA : ∀ h, A h → rdH 1 pv ns.length (ns.map (Value.int .i64)) h) : Cn Tryz.prog 151 [.pointer (some ⟨pt, 0, none⟩), .agg #[.int .i64 e, .int .i64 s, pv, u32 u]] [tblA pt, A] (fun v Γ => (¬ ((0 ≤ e ∧ e ≤ 1099511627776) ∧ (0 ≤ s ∧ s ≤ 1099511627776) ∧ (1 ≤ ns.length ∧ ns.length ≤ 40) ∧ ∀ x ∈ ns, 0 ≤ x ∧ x ≤ 1023) ∧ v = .tuple #[.slice none 0 0, .int .i64 1] ∧ Γ = [tblA pt, A]) ∨ (((0 ≤ e ∧ e ≤ 1099511627776) ∧ (0 ≤ s ∧ s ≤ 1099511627776) ∧ (1 ≤ ns.length ∧ ns.length ≤ 40) ∧ ∀ x ∈ ns, 0 ≤ x ∧ x ≤ 1023) ∧ ∃ pw, v = .tuple #[.slice (some ⟨pw, 0, none⟩) 256 256, .int .i64 0] ∧ Γ = [blk pw (wrC (sect ([80, 76, 79, 71] ++ beN 8 e ++ beN 8 s ++ beN 4 (u.toNat : Int) ++ beN 2 (ns.length : Int) ++ ns.flatMap (beN 4))) ((26 + 4 * ns.length : Nat) : Int)) 209, tblA pt, A])) := by
 intro z R w H'; have H : Sep z (tblA pt :: A :: R) w := H'
 clear H'; obtain ⟨ao, pc, rfl⟩ := H.says 1 rfl (fun h q => (hA h q).slc); have hul := u.toNat_lt
 refine enter Tryz.func151 rfl 65 Tryz.ntmps151 rfl (k_seq (s_region (s_go rfl rfl rfl (n_box H rfl rfl (cs := [.int .i64 e, .int .i64 s, .slice ao ns.length pc, u32 u]) rfl) ?_))); rintro _ w ⟨b1, rfl, H'⟩; have H := H'.l3; clear H'; refine s_M 2 rfl rfl (s_end (k_seq (k_seq (s_region (s_M 1 rfl rfl (s_do rfl rfl rfl (d_eql_pn rfl (by kernel_rfl) rfl rfl) (s_L 3 [0, 0] (mm1 (H.blk 0 rfl) mm0) rfl (by kernel_rfl) rfl (s_C rfl rfl rfl rfl rfl (fun w => Tryz.call101 _ w) (in_c _ _) H rfl ?_)))))))); rintro _ w _ ⟨rfl, rfl⟩ H'; have H := H'.l3; clear H'; refine s_do rfl rfl rfl (d_not_dec rfl rfl) (s_M 2 rfl rfl (s_part 17 rfl (fun h1 => ?_) (fun h1 => ?_)))
 ·refine s_M 17 rfl rfl (s_end (k_true rfl (k_seq (s_region (s_M 2 rfl rfl (s_end (k_ret (doneL rfl [.slice none 0 0, .int .i64 1] ⟨rfl, ⟨rfl, trivial⟩⟩ (v := .tuple #[.slice none 0 0, .int .i64 1]) rfl ?_)))))))); exact ⟨[tblA pt, A], .inl ⟨by rintro ⟨q1, q2, q3, q4⟩; first | omega | exact absurd (q4 x (List.mem_of_getElem? hx)) ‹_›, rfl, rfl⟩, H.perm 3 [1, 2] rfl rfl⟩
 ·refine s_L 2 [1, 0] (mm1 (H.blk 0 rfl) mm0) rfl (by kernel_rfl) rfl (s_C rfl rfl rfl rfl rfl (fun w => Tryz.call101 _ w) (in_c _ _) H rfl ?_); rintro _ w _ ⟨rfl, rfl⟩ H'; have H := H'.l3; clear H'; refine s_do rfl rfl rfl (d_not_dec rfl rfl) (s_M 2 rfl rfl (s_part 23 rfl (fun h2 => ?_) (fun h2 => ?_)))
  ·refine s_M 11 rfl rfl (s_end (k_true rfl (k_seq (s_region (s_M 2 rfl rfl (s_end (k_ret (doneL rfl [.slice none 0 0, .int .i64 1] ⟨rfl, ⟨rfl, trivial⟩⟩ (v := .tuple #[.slice none 0 0, .int .i64 1]) rfl ?_)))))))); exact ⟨[tblA pt, A], .inl ⟨by rintro ⟨q1, q2, q3, q4⟩; first | omega | exact absurd (q4 x (List.mem_of_getElem? hx)) ‹_›, rfl, rfl⟩, H.perm 3 [1, 2] rfl rfl⟩
  ·refine s_L 2 [2, 0] (mm1 (H.blk 0 rfl) mm0) rfl (by kernel_rfl) rfl (s_do rfl rfl rfl (d_len rfl (z := 1) (by kernel_rfl) rfl) (s_M 3 rfl rfl (s_part 29 rfl (fun h3 => ?_) (fun h3 => ?_))))
   ·refine s_M 5 rfl rfl (s_end (k_true rfl (k_seq (s_region (s_M 2 rfl rfl (s_end (k_ret (doneL rfl [.slice none 0 0, .int .i64 1] ⟨rfl, ⟨rfl, trivial⟩⟩ (v := .tuple #[.slice none 0 0, .int .i64 1]) rfl ?_)))))))); exact ⟨[tblA pt, A], .inl ⟨by rintro ⟨q1, q2, q3, q4⟩; first | omega | exact absurd (q4 x (List.mem_of_getElem? hx)) ‹_›, rfl, rfl⟩, H.perm 3 [1, 2] rfl rfl⟩
   ·refine s_L 2 [2, 0] (mm1 (H.blk 0 rfl) mm0) rfl (by kernel_rfl) rfl (s_do rfl rfl rfl (d_len rfl (z := 1) (by kernel_rfl) rfl) (s_M 2 rfl rfl (s_end (k_dec rfl (fun h4 => ?_) (fun h4 => ?_)))))
    ·refine k_seq (s_region (s_M 2 rfl rfl (s_end (k_ret (doneL rfl [.slice none 0 0, .int .i64 1] ⟨rfl, ⟨rfl, trivial⟩⟩ (v := .tuple #[.slice none 0 0, .int .i64 1]) rfl ?_))))); exact ⟨[tblA pt, A], .inl ⟨by rintro ⟨q1, q2, q3, q4⟩; first | omega | exact absurd (q4 x (List.mem_of_getElem? hx)) ‹_›, rfl, rfl⟩, H.perm 3 [1, 2] rfl rfl⟩
    ·have hn40 : ns.length ≤ 40 := by omega
     refine k_skip (k_seq (s_region (s_go rfl rfl rfl (n_alloc (P := Tryz.prog) H rfl (zs := (wrC (pad []) 0)) (by kernel_rfl)) ?_))); rintro _ w ⟨b2, rfl, H'⟩; have H := H'.l4; clear H'; refine s_end (k_seq (s_region (s_C rfl rfl rfl rfl rfl (fun w => Tryz.call139 _ w) (text_c _ 0 [80, 76, 79, 71] _ (pad_len (by first | omega | (simp [beN_len, flat_len, -List.length_flatMap] <;> omega))) (by first | omega | (simp <;> omega))) H rfl ?_))); rintro _ w _ ⟨rfl, rfl⟩ H'; have H := H'.l4; clear H'; rw [show wrAll (pad []) ([80, 76, 79, 71]) 0 = pad ([80, 76, 79, 71]) from pad_put rfl (by first | omega | (simp [beN_len, flat_len, -List.length_flatMap] <;> omega))] at H; have H : Sep z (blk b2 (wrC (pad ([80, 76, 79, 71])) 4) 209 :: blk b1 [.int .i64 e, .int .i64 s, .slice ao ns.length pc, u32 u] 138 :: tblA pt :: A :: R) w := H
     refine s_end (k_seq (s_region (s_L 2 [0, 0] (mm1 (H.blk 1 rfl) mm0) rfl (by kernel_rfl) rfl (s_C rfl rfl rfl rfl rfl (fun w => Tryz.call140 _ w) (put_c _ 4 8 e _ (pad_len (by first | omega | (simp [beN_len, flat_len, -List.length_flatMap] <;> omega))) (by omega)) H rfl ?_)))); rintro _ w _ ⟨rfl, rfl⟩ H'; have H := H'.l4; clear H'; rw [show wrAll (pad ([80, 76, 79, 71])) (beN 8 e) 4 = pad ([80, 76, 79, 71] ++ beN 8 e) from pad_put (by first | omega | (simp [beN_len, flat_len, -List.length_flatMap] <;> omega)) (by first | omega | (simp [beN_len, flat_len, -List.length_flatMap] <;> omega))] at H; have H : Sep z (blk b2 (wrC (pad ([80, 76, 79, 71] ++ beN 8 e)) 12) 209 :: blk b1 [.int .i64 e, .int .i64 s, .slice ao ns.length pc, u32 u] 138 :: tblA pt :: A :: R) w := H
     refine s_end (k_seq (s_region (s_L 2 [1, 0] (mm1 (H.blk 1 rfl) mm0) rfl (by kernel_rfl) rfl (s_C rfl rfl rfl rfl rfl (fun w => Tryz.call140 _ w) (put_c _ 12 8 s _ (pad_len (by first | omega | (simp [beN_len, flat_len, -List.length_flatMap] <;> omega))) (by omega)) H rfl ?_)))); rintro _ w _ ⟨rfl, rfl⟩ H'; have H := H'.l4; clear H'; rw [show wrAll (pad ([80, 76, 79, 71] ++ beN 8 e)) (beN 8 s) 12 = pad ([80, 76, 79, 71] ++ beN 8 e ++ beN 8 s) from pad_put (by first | omega | (simp [beN_len, flat_len, -List.length_flatMap] <;> omega)) (by first | omega | (simp [beN_len, flat_len, -List.length_flatMap] <;> omega))] at H; have H : Sep z (blk b2 (wrC (pad ([80, 76, 79, 71] ++ beN 8 e ++ beN 8 s)) 20) 209 :: blk b1 [.int .i64 e, .int .i64 s, .slice ao ns.length pc, u32 u] 138 :: tblA pt :: A :: R) w := H
     refine s_end (k_seq (s_region (s_L 2 [3, 0] (mm1 (H.blk 1 rfl) mm0) rfl (by kernel_rfl) rfl (s_do rfl rfl rfl (d_of32 rfl (by kernel_rfl) rfl) (s_C rfl rfl rfl rfl rfl (fun w => Tryz.call140 _ w) (put_c _ 20 4 (u.toNat : Int) _ (pad_len (by first | omega | (simp [beN_len, flat_len, -List.length_flatMap] <;> omega))) (by omega)) H rfl ?_))))); rintro _ w _ ⟨rfl, rfl⟩ H'; have H := H'.l4; clear H'; rw [show wrAll (pad ([80, 76, 79, 71] ++ beN 8 e ++ beN 8 s)) (beN 4 (u.toNat : Int)) 20 = pad ([80, 76, 79, 71] ++ beN 8 e ++ beN 8 s ++ beN 4 (u.toNat : Int)) from pad_put (by first | omega | (simp [beN_len, flat_len, -List.length_flatMap] <;> omega)) (by first | omega | (simp [beN_len, flat_len, -List.length_flatMap] <;> omega))] at H; have H : Sep z (blk b2 (wrC (pad ([80, 76, 79, 71] ++ beN 8 e ++ beN 8 s ++ beN 4 (u.toNat : Int))) 24) 209 :: blk b1 [.int .i64 e, .int .i64 s, .slice ao ns.length pc, u32 u] 138 :: tblA pt :: A :: R) w := H
     refine s_end (k_seq (s_region (s_L 2 [2, 0] (mm1 (H.blk 1 rfl) mm0) rfl (by kernel_rfl) rfl (s_do rfl rfl rfl (d_len rfl (z := 1) (by kernel_rfl) rfl) (s_C rfl rfl rfl rfl rfl (fun w => Tryz.call140 _ w) (put_c _ 24 2 (ns.length : Int) _ (pad_len (by first | omega | (simp [beN_len, flat_len, -List.length_flatMap] <;> omega))) (by omega)) H rfl ?_))))); rintro _ w _ ⟨rfl, rfl⟩ H'; have H := H'.l4; clear H'; rw [show wrAll (pad ([80, 76, 79, 71] ++ beN 8 e ++ beN 8 s ++ beN 4 (u.toNat : Int))) (beN 2 (ns.length : Int)) 24 = pad ([80, 76, 79, 71] ++ beN 8 e ++ beN 8 s ++ beN 4 (u.toNat : Int) ++ beN 2 (ns.length : Int)) from pad_put (by first | omega | (simp [beN_len, flat_len, -List.length_flatMap] <;> omega)) (by first | omega | (simp [beN_len, flat_len, -List.length_flatMap] <;> omega))] at H; have H : Sep z (blk b2 (wrC (pad ([80, 76, 79, 71] ++ beN 8 e ++ beN 8 s ++ beN 4 (u.toNat : Int) ++ beN 2 (ns.length : Int))) 26) 209 :: blk b1 [.int .i64 e, .int .i64 s, .slice ao ns.length pc, u32 u] 138 :: tblA pt :: A :: R) w := H
     refine s_end (k_seq (k_seq (s_region (s_L 2 [2, 0] (mm1 (H.blk 1 rfl) mm0) rfl (by kernel_rfl) rfl (s_do rfl rfl rfl (d_len rfl (z := 1) (by kernel_rfl) rfl) (s_M 1 rfl rfl (s_end (k_block ?_)))))))); refine c_loop (σ := Nat) (fun i => [(53, .int .i64 (i : Int)), (0, .pointer (some ⟨pt, 0, none⟩)), (6, .pointer (some ⟨b2, 0, none⟩)), (51, .slice ao ns.length pc), (52, .int .i64 (ns.length : Int))])
       (fun i w => Sep z (blk b2 (wrC (pad ([80, 76, 79, 71] ++ beN 8 e ++ beN 8 s ++ beN 4 (u.toNat : Int) ++ beN 2 (ns.length : Int) ++ (ns.take i).flatMap (beN 4))) ((26 + 4 * i : Nat) : Int)) 209 :: blk b1 [.int .i64 e, .int .i64 s, .slice ao ns.length pc, u32 u] 138 :: tblA pt :: A :: R) w ∧ (i ≤ ns.length ∧ ∀ (j : Nat) (x : Int), j < i → ns[j]? = some x → 0 ≤ x ∧ x ≤ 1023)) (fun i => ns.length - i) 0
       (fun _ hF => (hF.co rfl (by go_num) (hF.all rfl))) ⟨(by simpa using H), by omega, fun j x h => by omega⟩ ?_
     clear H; rintro i w ⟨H', hI⟩; have H := H'.l4; clear H'; obtain ⟨hin, hall⟩ := hI; refine k_seq (s_region (s_M 1 rfl rfl (s_end (k_seq (k_dec rfl (fun h5 => ?_) (fun h5 => ?_))))))
     ·obtain ⟨x, hx⟩ : ∃ x, ns[i]? = some x := ⟨_, List.getElem?_eq_getElem (by omega)⟩; refine k_skip (k_seq (k_block (k_seq (s_region ?_)))); have hat := (H.rd 3 rfl hA).at (j := i) (u := .int .i64 x) (by simp [hx])
      refine s_do rfl rfl rfl (d_indexE rfl (z := 1) (j := i) (r := i) (by kernel_rfl) rfl rfl rfl (by omega) hat (by omega)) (s_do rfl rfl rfl (d_loadE rfl rfl (by kernel_rfl) (here hat)) (s_M 1 rfl rfl (s_end (k_seq (k_seq (s_region (s_M 1 rfl rfl (s_C rfl rfl rfl rfl rfl (fun w => Tryz.call101 _ w) (in_c _ _) H rfl ?_)))))))); rintro _ w _ ⟨rfl, rfl⟩ H'; have H := H'.l4; clear H'; refine s_do rfl rfl rfl (d_not_dec rfl rfl) (s_end (k_dec rfl (fun h6 => ?_) (fun h6 => ?_)))
      ·refine k_seq (s_region (s_M 2 rfl rfl (s_end (k_ret (doneL rfl [.slice none 0 0, .int .i64 1] ⟨rfl, ⟨rfl, trivial⟩⟩ (v := .tuple #[.slice none 0 0, .int .i64 1]) rfl ?_))))); exact ⟨[tblA pt, A], .inl ⟨by rintro ⟨q1, q2, q3, q4⟩; first | omega | exact absurd (q4 x (List.mem_of_getElem? hx)) ‹_›, rfl, rfl⟩, H.perm 4 [2, 3] rfl rfl⟩
      ·refine k_skip (s_region (s_M 1 rfl rfl (s_C rfl rfl rfl rfl rfl (fun w => Tryz.call140 _ w) (put_c _ (26 + 4 * i) 4 x _ (pad_len (by first | omega | (simp [beN_len, flat_len, -List.length_flatMap] <;> omega))) (by omega)) H rfl ?_))); rintro _ w _ ⟨rfl, rfl⟩ H'; have H := H'.l4; clear H'; rw [show ((26 + 4 * i + 4 : Nat) : Int) = (((26 + 4 * (i + 1) : Nat) : Int) : Int) from by omega] at H; rw [show wrAll (pad ([80, 76, 79, 71] ++ beN 8 e ++ beN 8 s ++ beN 4 (u.toNat : Int) ++ beN 2 (ns.length : Int) ++ (ns.take i).flatMap (beN 4))) (beN 4 x) (26 + 4 * i) = pad ([80, 76, 79, 71] ++ beN 8 e ++ beN 8 s ++ beN 4 (u.toNat : Int) ++ beN 2 (ns.length : Int) ++ (ns.take i).flatMap (beN 4) ++ beN 4 x) from pad_put (by first | omega | (simp [beN_len, flat_len, -List.length_flatMap] <;> omega)) (by first | omega | (simp [beN_len, flat_len, -List.length_flatMap] <;> omega))] at H; have H : Sep z (blk b2 (wrC (pad ([80, 76, 79, 71] ++ beN 8 e ++ beN 8 s ++ beN 4 (u.toNat : Int) ++ beN 2 (ns.length : Int) ++ (ns.take i).flatMap (beN 4) ++ beN 4 x)) ((26 + 4 * (i + 1) : Nat) : Int)) 209 :: blk b1 [.int .i64 e, .int .i64 s, .slice ao ns.length pc, u32 u] 138 :: tblA pt :: A :: R) w := H
       refine s_end (s_region (s_do rfl rfl rfl (d_add64 rfl rfl rfl (r := (i : Int) + 1) (by omega) (by omega)) (s_M 1 rfl rfl (s_end ?_)))); intro _ hF; refine ⟨(i + 1), (hF.co rfl (by go_num) (hF.all rfl)), ⟨(by rw [← flat_snoc hx, ← List.append_assoc]; exact H), ?_⟩, ?_⟩
       ·refine ⟨by omega, fun j y hj h => ?_⟩; rcases Nat.lt_or_ge j i with q | q
        ·exact hall j y q h
        ·obtain rfl : j = i := by omega
         rw [hx] at h; cases h; omega
       ·omega
     ·obtain rfl : i = ns.length := by omega
      refine k_exit (k_here (k_seq ?_)); rw [List.take_length] at H; have H : Sep z (blk b2 (wrC (pad ([80, 76, 79, 71] ++ beN 8 e ++ beN 8 s ++ beN 4 (u.toNat : Int) ++ beN 2 (ns.length : Int) ++ ns.flatMap (beN 4))) ((26 + 4 * ns.length : Nat) : Int)) 209 :: blk b1 [.int .i64 e, .int .i64 s, .slice ao ns.length pc, u32 u] 138 :: tblA pt :: A :: R) w := H
      refine s_region (s_M 1 rfl rfl (s_C rfl rfl rfl rfl rfl (fun w => Tryz.call141 _ w) (framed_c _ _ _ _ (pad_len (by first | omega | (simp [beN_len, flat_len, -List.length_flatMap] <;> omega)))) H.f2.f1 rfl ?_)); rintro _ w _ ⟨rfl, rfl⟩ H'; have H := H'.l4; clear H'; refine s_M 2 rfl rfl (s_end (k_ret (doneL rfl [.slice (some ⟨b2, 0, none⟩) 256 256, .int .i64 0] ⟨rfl, ⟨rfl, trivial⟩⟩ (v := .tuple #[.slice (some ⟨b2, 0, none⟩) 256 256, .int .i64 0]) rfl ?_))); exact ⟨[blk b2 (wrC (sect ([80, 76, 79, 71] ++ beN 8 e ++ beN 8 s ++ beN 4 (u.toNat : Int) ++ beN 2 (ns.length : Int) ++ ns.flatMap (beN 4))) ((26 + 4 * ns.length : Nat) : Int)) 209, tblA pt, A], .inr ⟨⟨by omega, by omega, by omega, fun x hx => by obtain ⟨j, hj, rfl⟩ := List.mem_iff_getElem.1 hx; exact hall j _ hj (List.getElem?_eq_getElem hj)⟩, b2, rfl, rfl⟩, H.perm 4 [0, 1, 3] rfl rfl⟩
end Go.Proofs.YtbegkbjigbkljaaGreatDoor
namespace Go.Proofs.YtbegkbjigbkljaaGreatDoor
open Go.RowKit
theorem clone_c (b off n c : Nat) (bs : List UInt8) (A : Asn) (hA : ∀ h, A h → rdH 1 (.slice (some ⟨b, off, none⟩) n c) n (bs.map u8) h) (hn : 0 < n ∧ n ≤ 1073741824) : Cn Tryz.prog 97 [.slice (some ⟨b, off, none⟩) n c] [A] (fun v Γ => (∃ g cap rest, v = .slice (some ⟨g, 0, none⟩) n cap ∧ (n ≤ cap ∧ cap ≤ 9223372036854775807 ∧ rest.length = cap - n) ∧ Γ = [blk g (bs.map u8 ++ rest) 5, A])) := by
 intro z R w H'; have H : Sep z (A :: R) w := H'
 clear H'; refine enter Tryz.func97 rfl 8 Tryz.ntmps97 rfl (k_seq (s_region (s_M 1 rfl rfl (s_end (k_seq (k_seq (s_region (s_M 1 rfl rfl (s_do rfl rfl rfl (d_eql_sn rfl (by kernel_rfl) rfl rfl) (s_end (k_false rfl (k_skip (k_seq ?_))))))))))))); refine s_region (s_go rfl rfl rfl (n_buildSlice0 H rfl (by kernel_rfl) (Elt.mk (P := Tryz.prog) (e := 5) (z := u8 0) (sz := 1) (by_ := 1) (by kernel_rfl) rfl (by omega) (by omega))) ?_); rintro _ w ⟨b1, rfl, H'⟩; have H := H'.l2; clear H'; refine s_M 1 rfl rfl ?_; have H' := H.mono 0 (B := grow 5 1 (.slice (some ⟨b1, 0, none⟩) 0 0) 0 []) rfl (fun h q => q.grow (by omega) (by omega) (by simp) rfl)
 have H := H'.l2; clear H'; refine s_go rfl rfl rfl (n_append 0 H rfl rfl (by kernel_rfl) (Elt.mk (P := Tryz.prog) (e := 5) (z := u8 0) (sz := 1) (by_ := 1) (by kernel_rfl) rfl (by omega) (by omega)) rfl rfl (H.rd 1 rfl hA) (by simp [u8, Value.oneCell']) (by omega)) ?_; rintro v2 w H'; have ev2 : ([] ++ bs.map u8 : List Value) = bs.map u8 := by simp
 rw [ev2] at H'; rw [show (0 + n : Nat) = n from by omega] at H'; have H := H'.l2; clear H'; have sv2 := H.says 0 rfl (fun h q => q.slc)
 refine s_M 1 rfl rfl (s_end (k_ret (doneL rfl [v2] ⟨rfl, trivial⟩ (v := v2) rfl ?_))); obtain ⟨g, cap, rest, hv, c1, c2, c3, H'⟩ := H.ungrow 0 rfl (by omega); exact ⟨[blk g (bs.map u8 ++ rest) 5, A], ⟨g, cap, rest, hv, ⟨c1, c2, by omega⟩, rfl⟩, H'⟩
theorem read_c (pd : Nat) (D : Dsk) (x : Int) : Cn Tryz.prog 58 [.pointer (some ⟨pd, 0, none⟩), .int .i64 x, .int .i64 1] [diskA pd D] (fun v Γ => (¬ (0 ≤ x ∧ x < (D.n : Int)) ∧ v = .tuple #[.slice none 0 0, .int .i64 2] ∧ Γ = [diskA pd D]) ∨ ((0 ≤ x ∧ x < (D.n : Int)) ∧ D.f1 = 1 ∧ v = .tuple #[.slice none 0 0, .int .i64 10] ∧ Γ = [diskA pd { D with f1 := tick D.f1 }]) ∨ ((0 ≤ x ∧ x < (D.n : Int)) ∧ ¬ D.f1 = 1 ∧ ∃ g cap rest, v = .tuple #[.slice (some ⟨g, 0, none⟩) 256 cap, .int .i64 0] ∧ (256 ≤ cap ∧ cap ≤ 9223372036854775807 ∧ rest.length = cap - 256) ∧ Γ = [blk g ((D.cont x.toNat).map u8 ++ rest) 5, diskA pd { D with f1 := tick D.f1 }])) := by
 intro z R w H'; have H : Sep z (diskA pd D :: R) w := H'
 clear H'; obtain ⟨bd, m, f0, bs, es, clk, hq, hD, hIn, H'⟩ := H.disk; clear H; have hn1 := hD.n1; have hn2 := hD.n2; have hf1 := hD.f1; have hf2 := hD.f2; have hf3 := hD.f3; have hlf := hD.left; have hbl := hIn.len
 have H := H'.l5; clear H'; refine enter Tryz.func58 rfl 58 Tryz.ntmps58 rfl (k_seq (s_region (s_M 2 rfl rfl (s_end (k_seq (k_seq (s_region (s_M 3 rfl rfl (s_C rfl rfl rfl rfl rfl (fun w => Tryz.call95 _ w) (there_c _ _ _ _ _ _ _ _ _ _ _ _ (by omega)) H rfl ?_))))))))); rintro _ w _ ⟨rfl, rfl⟩ H'; have H := H'.l5; clear H'; refine s_do rfl rfl rfl (d_not_dec rfl rfl) (s_end (k_dec rfl (fun h1 => ?_) (fun h1 => ?_)))
 ·refine k_seq (s_region (s_M 2 rfl rfl (s_end (k_ret (doneL rfl [.slice none 0 0, .int .i64 2] ⟨rfl, ⟨rfl, trivial⟩⟩ (v := .tuple #[.slice none 0 0, .int .i64 2]) rfl ?_))))); have H' := Sep.toDisk (D := D) (pd := pd) (bd := bd) (m := m) (f0 := f0) (bs := bs) (es := es) (clk := clk) (hq := hq) (Γ := R) H hD hIn
  have H := H'.l1; clear H'; exact ⟨[diskA pd D], .inl ⟨by omega, rfl, rfl⟩, H⟩
 ·obtain ⟨k, rfl⟩ : ∃ k : Nat, x = (k : Int) := ⟨x.toNat, by omega⟩; have hk : k < D.n := by omega
  refine k_skip (k_seq (k_seq (s_region (s_M 1 rfl rfl (s_C rfl rfl rfl rfl rfl (fun w => Tryz.call96 _ w) (fails1_c _ _ _ _ _ _ _ _ _ _ (by omega)) H rfl ?_))))); rintro _ w _ ⟨rfl, rfl⟩ H'; have H := H'.l5; clear H'; refine s_end (k_dec rfl (fun h2 => ?_) (fun h2 => ?_))
  ·refine k_seq (s_region (s_M 2 rfl rfl (s_end (k_ret (doneL rfl [.slice none 0 0, .int .i64 10] ⟨rfl, ⟨rfl, trivial⟩⟩ (v := .tuple #[.slice none 0 0, .int .i64 10]) rfl ?_))))); have H' := Sep.toDisk (D := { D with f1 := tick D.f1 }) (pd := pd) (bd := bd) (m := m) (f0 := f0) (bs := bs) (es := es) (clk := clk) (hq := hq) (Γ := R) H (hD.f (tick_in hD.f1) hD.f2 hD.f3 hD.left) (hIn.f _ _ _ _ _)
   have H := H'.l1; clear H'; exact ⟨[diskA pd { D with f1 := tick D.f1 }], .inr (.inl ⟨by omega, ‹_›, rfl, rfl⟩), H⟩
  ·refine k_skip (k_seq (s_region (s_L 5 [0, 0] (mm1 (H.blk 0 rfl) mm0) rfl (by kernel_rfl) rfl (s_do rfl rfl rfl (d_mul64 rfl rfl rfl (r := (k : Int) * 256) (by omega) (by omega)) (s_M 2 rfl rfl (s_do rfl rfl rfl (d_add64 rfl rfl rfl (r := (k : Int) + 1) (by omega) (by omega)) (s_do rfl rfl rfl (d_mul64 rfl rfl rfl (r := ((k : Int) + 1) * 256) (by omega) (by omega)) (s_do rfl rfl rfl (d_sliceC rfl (z := 1) (p := (k * 256)) (q := ((k + 1) * 256)) (o' := k * 256) (l' := 256) (c' := D.n * 256 - k * 256) (by kernel_rfl) rfl (.inr ⟨_, _, _, rfl, rfl, (by omega)⟩) (.inr ⟨_, _, _, rfl, rfl, (by omega)⟩) (by omega) (by omega) (by omega) (by omega) (by omega) (by omega)) (s_C rfl rfl rfl rfl rfl (fun w => Tryz.call97 _ w) (clone_c _ _ 256 _ (D.dur k) _ (fun h q => q.rd (by omega) (by omega) (by simp; omega) (by rw [← List.map_drop, ← List.map_take, Nat.mul_one, hIn.own k hk])) (by omega)) H.f1 rfl ?_))))))))); rintro _ w _ ⟨g, cap, rest, rfl, ⟨cg, cc, cl⟩, rfl⟩ H'; have H := H'.l6; clear H'; refine s_M 1 rfl rfl (s_end (k_seq (k_seq (s_region (s_M 2 rfl rfl (s_end (k_block ?_))))))); refine c_loop (σ := Nat) (fun j => [(31, .int .i64 (j : Int)), (0, .pointer (some ⟨pd, 0, none⟩)), (1, .int .i64 (k : Int)), (6, .slice none 0 0), (7, .int .i64 0), (8, .slice (some ⟨g, 0, none⟩) 256 cap), (30, .int .i64 1)])
     (fun j w => Sep z (blk g ((rdSt D k j).map u8 ++ rest) 5 :: blk bd (bs.map u8) 5 :: blk pd [.slice (some ⟨bd, 0, none⟩) (D.n * 256) (D.n * 256), .map (some m), .int .i64 f0, .int .i64 (if D.f1 = 0 then 0 else D.f1 - 1), .int .i64 D.f2, .int .i64 D.f3, .bool D.cut, .int .i64 D.left] 120 :: mapB m (es.map Ent.ie) clk :: poolA hq :: seps (es.map Ent.row) :: R) w ∧ (j ≤ 1)) (fun j => 1 - j) 0
     (fun _ hF => (hF.co rfl (by go_num) (hF.all rfl))) ⟨H, by omega⟩ ?_
   clear H; rintro j w ⟨H', hI⟩; have H := H'.l6; clear H'; refine k_seq (s_region (s_M 1 rfl rfl (s_end (k_seq (k_dec rfl (fun h3 => ?_) (fun h3 => ?_))))))
   ·obtain rfl : j = 0 := by omega
    refine k_skip (k_seq (k_block (k_seq (s_region (s_M 2 rfl rfl (s_end (k_seq (s_region ?_)))))))); obtain ⟨v0, pvs, hgv, hpl, hrow, hpool⟩ := row_of hIn hk; have sv := H.says 5 rfl (fun h q => (hrow h q).slc)
    obtain ⟨ao, cc0, rfl⟩ := sv; have hpm := H.says 5 rfl (fun h q => (hrow h q).small)
    refine s_L 6 [1, 0] (mm1 (H.blk 2 rfl) mm0) rfl (by kernel_rfl) rfl (s_do rfl rfl rfl (d_add64 rfl rfl rfl (r := (k : Int)) (by omega) (by omega)) (s_do rfl rfl rfl (d_lookup (e := 82) (zv := .slice none 0 0) rfl (by kernel_rfl) (by kernel_rfl) rfl rfl (here (H.bk 3 rfl))) (k_updA 41 (u := (getM (es.map Ent.ie) (k : Int)).getD (.slice none 0 0)) (v := .slice ao pvs.length cc0) rfl hgv (s_M 1 rfl rfl (s_end (k_seq (s_region (s_M 1 rfl rfl (s_do rfl rfl rfl (d_len rfl (z := 1) (by kernel_rfl) rfl) (s_M 1 rfl rfl (s_end (k_dec rfl (fun h4 => ?_) (fun h4 => ?_)))))))))))))
    ·obtain ⟨pv, hpv⟩ : ∃ pv, pvs[pvs.length - 1]? = some pv := ⟨_, List.getElem?_eq_getElem (by omega)⟩; obtain ⟨p, hp⟩ : ∃ p, (D.ver k)[pvs.length - 1]? = some p := ⟨_, List.getElem?_eq_getElem (by omega)⟩; have hcp := cont_last hpl hp
     have hplen : p.length = 256 := by rw [← hcp]; exact Dsk.cont_len hD hk
     refine t_region 10 (by kernel_rfl) (by kernel_rfl) (fun w' x' _ => ?_); have H' := H.ext0 x'; clear x' H; revert H'; generalize w' = w; intro H'
     have H := H'.l6; clear H'; refine t_M 2 [] rfl (by kernel_rfl) (t_do rfl rfl rfl (d_mul64 rfl rfl rfl (r := 0) (by omega) (by omega)) (t_do rfl rfl rfl (d_sliceC rfl (z := 1) (p := 0) (q := 256) (o' := 0) (l' := 256) (c' := cap) (by kernel_rfl) rfl (.inr ⟨_, _, _, rfl, rfl, rfl⟩) (.inl ⟨rfl, rfl⟩) (by omega) (by omega) (by omega) (by omega) (by omega) (by omega)) (t_M 2 [] rfl (by kernel_rfl) (t_do rfl rfl rfl (d_len rfl (z := 1) (by kernel_rfl) rfl) (t_do rfl rfl rfl (d_sub64 rfl rfl rfl (r := (pvs.length : Int) - 1) (by omega) (by omega)) ?_))))); have hat := (H.rd 5 rfl hrow).at hpv
     refine t_do rfl rfl rfl (d_indexE rfl (z := 1) (j := (pvs.length - 1)) (r := (pvs.length - 1)) (by kernel_rfl) rfl rfl (by omega) (by omega) hat (by omega)) (t_do rfl rfl rfl (d_loadE rfl rfl (by kernel_rfl) (here hat)) (t_end (s_go rfl rfl rfl (n_copy 0 H rfl rfl (by kernel_rfl) rfl rfl (m := 256) (news := (p.map u8)) (.inl (H.rd 4 rfl (hpool _ _ _ hpv hp))) (by simp [u8, Value.oneCell']) (by simp [rdSt, hD.dur k hk] <;> omega) (k := 256) (by omega) (out := ((rdSt D k (0 + 1)).map u8 ++ rest)) (by rw [show rdSt D k (0 + 1) = p from hcp]; simp [rdSt, List.take_of_length_le, hplen, hD.dur k hk, List.drop_append])) ?_))); rintro _ w ⟨rfl, H'⟩; have H := H'.l6; clear H'; refine s_end (s_region (s_do rfl rfl rfl (d_add64 rfl rfl rfl (r := (0 : Int) + 1) (by omega) (by omega)) (s_M 1 rfl rfl (s_end ?_)))); intro _ hF; refine ⟨(0 + 1), (hF.co rfl (by go_num) (hF.all rfl)), ⟨H, ?_⟩, ?_⟩
     ·omega
     ·omega
    ·refine k_skip (s_region (s_do rfl rfl rfl (d_add64 rfl rfl rfl (r := (0 : Int) + 1) (by omega) (by omega)) (s_M 1 rfl rfl (s_end ?_)))); intro _ hF; refine ⟨(0 + 1), (hF.co rfl (by go_num) (hF.all rfl)), ⟨(by rw [show rdSt D k (0 + 1) = rdSt D k 0 from cont_nil (List.eq_nil_of_length_eq_zero (by omega))]; exact H), ?_⟩, ?_⟩
     ·omega
     ·omega
   ·refine k_exit (k_here (k_seq (s_region (s_M 3 rfl rfl (s_end (k_ret (doneL rfl [.slice (some ⟨g, 0, none⟩) 256 cap, .int .i64 0] ⟨rfl, ⟨rfl, trivial⟩⟩ (v := .tuple #[.slice (some ⟨g, 0, none⟩) 256 cap, .int .i64 0]) rfl ?_))))))); obtain rfl : j = 1 := by omega
    replace H := H.f5.f5.f5.f4.f5; have H' := Sep.toDisk (D := { D with f1 := tick D.f1 }) (pd := pd) (bd := bd) (m := m) (f0 := f0) (bs := bs) (es := es) (clk := clk) (hq := hq) (Γ := blk g ((rdSt D k 1).map u8 ++ rest) 5 :: R) H (hD.f (tick_in hD.f1) hD.f2 hD.f3 hD.left) (hIn.f _ _ _ _ _)
    have H := H'.l2; clear H'; exact ⟨[blk g ((D.cont k).map u8 ++ rest) 5, diskA pd { D with f1 := tick D.f1 }], .inr (.inr ⟨by omega, ‹_›, g, cap, rest, rfl, ⟨cg, cc, cl⟩, rfl⟩), H.perm 2 [1, 0] rfl rfl⟩
end Go.Proofs.YtbegkbjigbkljaaGreatDoor
namespace Go.Proofs.YtbegkbjigbkljaaGreatDoor
open Go.RowKit
theorem getHead_c (pt b o c : Nat) (sec : List UInt8) (A : Asn) (hA : ∀ h, A h → rdH 1 (.slice (some ⟨b, o, none⟩) 256 c) 256 (sec.map u8) h) : Cn Tryz.prog 136 [.pointer (some ⟨pt, 0, none⟩), .slice (some ⟨b, o, none⟩) 256 c] [tblA pt, A] (fun v Γ => (headP sec ∧ ∃ v', v = .tuple #[.agg #[.int .i64 (getI ((sec.drop 4).take 8)), .int .i64 (getI ((sec.drop 12).take 8)), v', u32 (w32 (getI ((sec.drop 20).take 4)))], .bool true] ∧ Γ = [grow 3 1 v' (hCnt sec) (hN sec (hCnt sec)), tblA pt, A]) ∨ (¬ headP sec ∧ v = .tuple #[.agg #[.int .i64 0, .int .i64 0, .slice none 0 0, u32 0], .bool false] ∧ Γ = [tblA pt, A])) := by
 intro z R w H'; have H : Sep z (tblA pt :: A :: R) w := H'
 clear H'; have hsl := H.says 1 rfl (fun h q => (hA h q).len)
 have hcb := H.says 1 rfl (fun h q => (hA h q).cap)
 obtain ⟨c0, c1, c2, c3, hd⟩ := four hsl; obtain ⟨m, hm, hm2⟩ := cnt_is (sec := sec); refine enter Tryz.func136 rfl 64 Tryz.ntmps136 rfl (k_seq (s_region (s_go rfl rfl rfl (n_alloc (P := Tryz.prog) H rfl (zs := [.int .i64 0, .int .i64 0, .slice none 0 0, u32 0]) (by kernel_rfl)) ?_))); rintro _ w ⟨b1, rfl, H'⟩; have H := H'.l3; clear H'; refine s_M 1 rfl rfl (s_end (k_seq (s_region (s_M 2 rfl rfl (s_C rfl rfl rfl rfl rfl (fun w => Tryz.call99 _ w) (sound_c _ _ _ _ _ sec _ hA) H.f2.f2 rfl ?_))))); rintro _ w _ (⟨hs, rfl, rfl⟩ | ⟨hs, rfl, rfl⟩) H'
 ·have H := H'.l3; clear H'; refine s_M 3 rfl rfl (s_go rfl rfl rfl (n_alloc (P := Tryz.prog) H rfl (zs := [.slice none 0 0]) (by kernel_rfl)) ?_); rintro _ w ⟨b2, rfl, H'⟩; have H := H'.l4; clear H'; refine s_put rfl rfl (n_store 0 H rfl rfl rfl rfl (vs := [.slice (some ⟨b, (o + 4), none⟩) 248 (c - 4)]) rfl (by simp [u8, u32, Value.oneCell']) (by kernel_rfl) (by simp) (out := [.slice (some ⟨b, (o + 4), none⟩) 248 (c - 4)]) rfl) ?_; rintro w H'; have H := H'.l4; clear H'; refine s_M 1 rfl rfl (s_end (k_seq (k_seq (s_region (s_M 2 rfl rfl (s_end (k_false rfl (k_skip (k_seq (s_region (s_C rfl rfl rfl rfl rfl (fun w => Tryz.call100 _ w) (get_c 8 _ b (o + 4) 248 (c - 4) ((sec.drop 4).take 248) _ (fun h q => (hA h q).cut (lo := 4) (m := 248) (c' := (c - 4)) (by omega) (by omega) (by omega)) (by omega) (by omega) ((sec.drop 4).take 8) (by rw [List.take_take, Nat.min_eq_left (by omega)]) (o + 12) 240 (c - 12) (by omega) (by omega) (by omega)) H.f2.f1 rfl ?_))))))))))); rintro _ w _ ⟨rfl, rfl⟩ H'; have H := H'.l4; clear H'; refine s_C rfl rfl rfl rfl rfl (fun w => Tryz.call100 _ w) (get_c 8 _ b (o + 12) 240 (c - 12) ((sec.drop 12).take 240) _ (fun h q => (hA h q).cut (lo := 12) (m := 240) (c' := (c - 12)) (by omega) (by omega) (by omega)) (by omega) (by omega) ((sec.drop 12).take 8) (by rw [List.take_take, Nat.min_eq_left (by omega)]) (o + 20) 232 (c - 20) (by omega) (by omega) (by omega)) H rfl ?_; rintro _ w _ ⟨rfl, rfl⟩ H'; have H := H'.l4; clear H'; refine s_C rfl rfl rfl rfl rfl (fun w => Tryz.call100 _ w) (get_c 4 _ b (o + 20) 232 (c - 20) ((sec.drop 20).take 232) _ (fun h q => (hA h q).cut (lo := 20) (m := 232) (c' := (c - 20)) (by omega) (by omega) (by omega)) (by omega) (by omega) ((sec.drop 20).take 4) (by rw [List.take_take, Nat.min_eq_left (by omega)]) (o + 24) 228 (c - 24) (by omega) (by omega) (by omega)) H rfl ?_
  rintro _ w _ ⟨rfl, rfl⟩ H'; have H := H'.l4; clear H'; refine s_do rfl rfl rfl (d_to32 rfl (by kernel_rfl) rfl) (s_do rfl rfl rfl (d_build rfl rfl (out := [.int .i64 (getI ((sec.drop 4).take 8)), .int .i64 (getI ((sec.drop 12).take 8)), .slice none 0 0, u32 (w32 (getI ((sec.drop 20).take 4)))]) (by kernel_rfl)) (s_go rfl rfl rfl (n_alloc (P := Tryz.prog) H rfl (zs := [.int .i64 0, .int .i64 0, .slice none 0 0, u32 0]) (by kernel_rfl)) ?_)); rintro _ w ⟨b3, rfl, H'⟩; have H := H'.l5; clear H'; refine s_put rfl rfl (n_store 0 H rfl rfl rfl rfl (vs := [.int .i64 (getI ((sec.drop 4).take 8)), .int .i64 (getI ((sec.drop 12).take 8)), .slice none 0 0, u32 (w32 (getI ((sec.drop 20).take 4)))]) rfl (by simp [u8, u32, Value.oneCell']) (by kernel_rfl) (by simp) (out := [.int .i64 (getI ((sec.drop 4).take 8)), .int .i64 (getI ((sec.drop 12).take 8)), .slice none 0 0, u32 (w32 (getI ((sec.drop 20).take 4)))]) rfl) ?_; rintro w H'; have H := H'.l5; clear H'; refine s_end (k_seq (s_region (s_C rfl rfl rfl rfl rfl (fun w => Tryz.call100 _ w) (get_c 2 _ b (o + 24) 228 (c - 24) ((sec.drop 24).take 228) _ (fun h q => (hA h q).cut (lo := 24) (m := 228) (c' := (c - 24)) (by omega) (by omega) (by omega)) (by omega) (by omega) ((sec.drop 24).take 2) (by rw [List.take_take, Nat.min_eq_left (by omega)]) (o + 26) 226 (c - 26) (by omega) (by omega) (by omega)) H.f2.f2 rfl ?_))); rintro _ w _ ⟨rfl, rfl⟩ H'; have H := H'.l5; clear H'; refine s_M 1 rfl rfl (s_end (k_seq (k_seq (s_region (s_L 2 [0, 0] (mm1 (H.blk 2 rfl) mm0) rfl (by kernel_rfl) rfl (s_C rfl rfl rfl rfl rfl (fun w => Tryz.call101 _ w) (in_c _ _) H rfl ?_))))))
  rintro _ w _ ⟨rfl, rfl⟩ H'; have H := H'.l5; clear H'; refine s_do rfl rfl rfl (d_not_dec rfl rfl) (s_M 1 rfl rfl (s_part 30 rfl (fun h1 => ?_) (fun h1 => ?_)))
  ·refine s_M 13 rfl rfl (s_end (k_true rfl (k_seq (s_region (s_do rfl rfl rfl (d_build rfl rfl (out := [.int .i64 0, .int .i64 0, .slice none 0 0, u32 0]) (by kernel_rfl)) (s_put rfl rfl (n_store 4 H rfl rfl rfl rfl (vs := [.int .i64 0, .int .i64 0, .slice none 0 0, u32 0]) rfl (by simp [u8, u32, Value.oneCell']) (by kernel_rfl) (by simp) (out := [.int .i64 0, .int .i64 0, .slice none 0 0, u32 0]) rfl) ?_)))))); rintro w H'; have H := H'.l5; clear H'; refine s_M 1 rfl rfl (s_end (k_ret (doneL rfl [.agg #[.int .i64 0, .int .i64 0, .slice none 0 0, u32 0], .bool false] ⟨⟨_, _, rfl, run_loadBlk (by kernel_rfl) (H.blk 4 rfl) (vs := [.int .i64 0, .int .i64 0, .slice none 0 0, u32 0]) rfl⟩, ⟨rfl, trivial⟩⟩ (v := .tuple #[.agg #[.int .i64 0, .int .i64 0, .slice none 0 0, u32 0], .bool false]) rfl ?_))); exact ⟨[tblA pt, A], .inr ⟨by first | exact fun q => hs q.1 | (rintro ⟨q0, q1, q2, q3, q4, q5⟩; first | (exfalso; omega) | exact absurd (q4 i (by omega)) ‹_› | (rw [hm2] at q5; exact absurd q5 ‹_›)), rfl, rfl⟩, H.perm 5 [3, 1] rfl rfl⟩
  ·refine s_L 2 [1, 0] (mm1 (H.blk 2 rfl) mm0) rfl (by kernel_rfl) rfl (s_C rfl rfl rfl rfl rfl (fun w => Tryz.call101 _ w) (in_c _ _) H rfl ?_); rintro _ w _ ⟨rfl, rfl⟩ H'; have H := H'.l5; clear H'; refine s_do rfl rfl rfl (d_not_dec rfl rfl) (s_M 2 rfl rfl (s_part 36 rfl (fun h2 => ?_) (fun h2 => ?_)))
   ·refine s_M 7 rfl rfl (s_end (k_true rfl (k_seq (s_region (s_do rfl rfl rfl (d_build rfl rfl (out := [.int .i64 0, .int .i64 0, .slice none 0 0, u32 0]) (by kernel_rfl)) (s_put rfl rfl (n_store 4 H rfl rfl rfl rfl (vs := [.int .i64 0, .int .i64 0, .slice none 0 0, u32 0]) rfl (by simp [u8, u32, Value.oneCell']) (by kernel_rfl) (by simp) (out := [.int .i64 0, .int .i64 0, .slice none 0 0, u32 0]) rfl) ?_)))))); rintro w H'; have H := H'.l5; clear H'; refine s_M 1 rfl rfl (s_end (k_ret (doneL rfl [.agg #[.int .i64 0, .int .i64 0, .slice none 0 0, u32 0], .bool false] ⟨⟨_, _, rfl, run_loadBlk (by kernel_rfl) (H.blk 4 rfl) (vs := [.int .i64 0, .int .i64 0, .slice none 0 0, u32 0]) rfl⟩, ⟨rfl, trivial⟩⟩ (v := .tuple #[.agg #[.int .i64 0, .int .i64 0, .slice none 0 0, u32 0], .bool false]) rfl ?_))); exact ⟨[tblA pt, A], .inr ⟨by first | exact fun q => hs q.1 | (rintro ⟨q0, q1, q2, q3, q4, q5⟩; first | (exfalso; omega) | exact absurd (q4 i (by omega)) ‹_› | (rw [hm2] at q5; exact absurd q5 ‹_›)), rfl, rfl⟩, H.perm 5 [3, 1] rfl rfl⟩
   ·refine s_M 4 rfl rfl (s_part 40 rfl (fun h3 => ?_) (fun h3 => ?_))
    ·refine s_M 3 rfl rfl (s_end (k_true rfl (k_seq (s_region (s_do rfl rfl rfl (d_build rfl rfl (out := [.int .i64 0, .int .i64 0, .slice none 0 0, u32 0]) (by kernel_rfl)) (s_put rfl rfl (n_store 4 H rfl rfl rfl rfl (vs := [.int .i64 0, .int .i64 0, .slice none 0 0, u32 0]) rfl (by simp [u8, u32, Value.oneCell']) (by kernel_rfl) (by simp) (out := [.int .i64 0, .int .i64 0, .slice none 0 0, u32 0]) rfl) ?_)))))); rintro w H'; have H := H'.l5; clear H'; refine s_M 1 rfl rfl (s_end (k_ret (doneL rfl [.agg #[.int .i64 0, .int .i64 0, .slice none 0 0, u32 0], .bool false] ⟨⟨_, _, rfl, run_loadBlk (by kernel_rfl) (H.blk 4 rfl) (vs := [.int .i64 0, .int .i64 0, .slice none 0 0, u32 0]) rfl⟩, ⟨rfl, trivial⟩⟩ (v := .tuple #[.agg #[.int .i64 0, .int .i64 0, .slice none 0 0, u32 0], .bool false]) rfl ?_))); exact ⟨[tblA pt, A], .inr ⟨by first | exact fun q => hs q.1 | (rintro ⟨q0, q1, q2, q3, q4, q5⟩; first | (exfalso; omega) | exact absurd (q4 i (by omega)) ‹_› | (rw [hm2] at q5; exact absurd q5 ‹_›)), rfl, rfl⟩, H.perm 5 [3, 1] rfl rfl⟩
    ·refine s_M 3 rfl rfl (s_end (k_dec rfl (fun h4 => ?_) (fun h4 => ?_)))
     ·refine k_seq (s_region (s_do rfl rfl rfl (d_build rfl rfl (out := [.int .i64 0, .int .i64 0, .slice none 0 0, u32 0]) (by kernel_rfl)) (s_put rfl rfl (n_store 4 H rfl rfl rfl rfl (vs := [.int .i64 0, .int .i64 0, .slice none 0 0, u32 0]) rfl (by simp [u8, u32, Value.oneCell']) (by kernel_rfl) (by simp) (out := [.int .i64 0, .int .i64 0, .slice none 0 0, u32 0]) rfl) ?_))); rintro w H'; have H := H'.l5; clear H'; refine s_M 1 rfl rfl (s_end (k_ret (doneL rfl [.agg #[.int .i64 0, .int .i64 0, .slice none 0 0, u32 0], .bool false] ⟨⟨_, _, rfl, run_loadBlk (by kernel_rfl) (H.blk 4 rfl) (vs := [.int .i64 0, .int .i64 0, .slice none 0 0, u32 0]) rfl⟩, ⟨rfl, trivial⟩⟩ (v := .tuple #[.agg #[.int .i64 0, .int .i64 0, .slice none 0 0, u32 0], .bool false]) rfl ?_))); exact ⟨[tblA pt, A], .inr ⟨by first | exact fun q => hs q.1 | (rintro ⟨q0, q1, q2, q3, q4, q5⟩; first | (exfalso; omega) | exact absurd (q4 i (by omega)) ‹_› | (rw [hm2] at q5; exact absurd q5 ‹_›)), rfl, rfl⟩, H.perm 5 [3, 1] rfl rfl⟩
     ·refine k_skip (k_seq (k_seq (k_updA 9 (u := .int .i64 (getI ((sec.drop 24).take 2))) (v := .int .i64 (m : Int)) rfl (congrArg (Value.int .i64) hm) ?_))); have H' := H.nilg 3 1
      have H := H'.l6; clear H'; refine s_region (s_M 2 rfl rfl (s_end (k_block ?_))); refine c_loop (σ := Nat × Value) (fun ⟨i, v⟩ => [(46, .int .i64 (i : Int)), (4, .pointer (some ⟨b1, 0, none⟩)), (6, .pointer (some ⟨b2, 0, none⟩)), (8, .pointer (some ⟨b3, 0, none⟩)), (45, .int .i64 (m : Int))])
        (fun ⟨i, v⟩ w => Sep z (grow 3 1 v i (hN sec i) :: blk b2 [.slice (some ⟨b, (o + (26 + 4 * i)), none⟩) (252 - (26 + 4 * i)) (c - (26 + 4 * i))] 155 :: A :: blk b3 [.int .i64 (getI ((sec.drop 4).take 8)), .int .i64 (getI ((sec.drop 12).take 8)), v, u32 (w32 (getI ((sec.drop 20).take 4)))] 138 :: tblA pt :: blk b1 [.int .i64 0, .int .i64 0, .slice none 0 0, u32 0] 138 :: R) w ∧ (i ≤ m ∧ ∀ j, j < i → 0 ≤ hNum sec j ∧ hNum sec j ≤ 1023)) (fun ⟨i, v⟩ => m - i) ⟨0, .slice none 0 0⟩
        (fun _ hF => (hF.co rfl (by go_num) (hF.all rfl))) ⟨H, by omega, fun j h => by omega⟩ ?_
      clear H; rintro ⟨i, v⟩ w ⟨H', hI⟩; dsimp only at hI H' ⊢
      have H := H'.l6; clear H'; have sv := H.says 0 rfl (fun h q => q.slc)
      obtain ⟨him, hall⟩ := hI; refine k_seq (s_region (s_M 1 rfl rfl (s_end (k_seq (k_dec rfl (fun h5 => ?_) (fun h5 => ?_))))))
      ·have hlt : i < m := by omega
       refine k_skip (k_seq (k_block (k_seq (s_region (s_C rfl rfl rfl rfl rfl (fun w => Tryz.call100 _ w) (get_c 4 _ b (o + (26 + 4 * i)) (252 - (26 + 4 * i)) (c - (26 + 4 * i)) ((sec.drop (26 + 4 * i)).take (252 - (26 + 4 * i))) _ (fun h q => (hA h q).cut (lo := (26 + 4 * i)) (m := (252 - (26 + 4 * i))) (c' := (c - (26 + 4 * i))) (by omega) (by omega) (by omega)) (by omega) (by omega) ((sec.drop (26 + 4 * i)).take 4) (by rw [List.take_take, Nat.min_eq_left (by omega)]) (o + (26 + 4 * (i + 1))) (252 - (26 + 4 * (i + 1))) (c - (26 + 4 * (i + 1))) (by omega) (by omega) (by omega)) H.f2.f2 rfl ?_))))); rintro _ w _ ⟨rfl, rfl⟩ H'; have H := H'.l6; clear H'; refine s_M 1 rfl rfl (s_end (k_seq (k_seq (s_region (s_M 1 rfl rfl (s_C rfl rfl rfl rfl rfl (fun w => Tryz.call101 _ w) (in_c _ _) H rfl ?_)))))); rintro _ w _ ⟨rfl, rfl⟩ H'; have H := H'.l6; clear H'; refine s_do rfl rfl rfl (d_not_dec rfl rfl) (s_end (k_dec rfl (fun h6 => ?_) (fun h6 => ?_)))
       ·refine k_seq (s_region (s_do rfl rfl rfl (d_build rfl rfl (out := [.int .i64 0, .int .i64 0, .slice none 0 0, u32 0]) (by kernel_rfl)) (s_put rfl rfl (n_store 5 H rfl rfl rfl rfl (vs := [.int .i64 0, .int .i64 0, .slice none 0 0, u32 0]) rfl (by simp [u8, u32, Value.oneCell']) (by kernel_rfl) (by simp) (out := [.int .i64 0, .int .i64 0, .slice none 0 0, u32 0]) rfl) ?_))); rintro w H'; have H := H'.l6; clear H'; refine s_M 1 rfl rfl (s_end (k_ret (doneL rfl [.agg #[.int .i64 0, .int .i64 0, .slice none 0 0, u32 0], .bool false] ⟨⟨_, _, rfl, run_loadBlk (by kernel_rfl) (H.blk 5 rfl) (vs := [.int .i64 0, .int .i64 0, .slice none 0 0, u32 0]) rfl⟩, ⟨rfl, trivial⟩⟩ (v := .tuple #[.agg #[.int .i64 0, .int .i64 0, .slice none 0 0, u32 0], .bool false]) rfl ?_))); exact ⟨[tblA pt, A], .inr ⟨by first | exact fun q => hs q.1 | (rintro ⟨q0, q1, q2, q3, q4, q5⟩; first | (exfalso; omega) | exact absurd (q4 i (by omega)) ‹_› | (rw [hm2] at q5; exact absurd q5 ‹_›)), rfl, rfl⟩, H.perm 6 [4, 1] rfl rfl⟩
       ·refine k_skip (s_region (s_L 3 [2, 0] (mm1 (H.blk 3 rfl) mm0) rfl (by kernel_rfl) rfl (s_go rfl rfl rfl (n_buildSlice H rfl (by kernel_rfl) (Elt.mk (P := Tryz.prog) (e := 3) (z := .int .i64 0) (sz := 1) (by_ := 8) (by kernel_rfl) rfl (by omega) (by omega)) rfl (by decide) (by decide) (out := [.int .i64 (hNum sec i)]) (by kernel_rfl)) ?_))); rintro _ w ⟨b4, rfl, H'⟩; have H := H'.l7; clear H'; refine s_go rfl rfl rfl (n_append 3 H rfl rfl (by kernel_rfl) (Elt.mk (P := Tryz.prog) (e := 3) (z := .int .i64 0) (sz := 1) (by_ := 8) (by kernel_rfl) rfl (by omega) (by omega)) rfl rfl (H.rd 0 rfl (fun h q => q.rd (by omega) (by omega) (by simp) rfl)) (by simp [Value.oneCell']) (by omega)) ?_; rintro v5 w H'; have H' : Sep z (blk b4 [.int .i64 (hNum sec i)] 3 :: blk b2 [.slice (some ⟨b, (o + (26 + 4 * (i + 1))), none⟩) (252 - (26 + 4 * (i + 1))) (c - (26 + 4 * (i + 1)))] 155 :: A :: grow 3 1 v5 (i + 1) (hN sec i ++ [.int .i64 (hNum sec i)]) :: blk b3 [.int .i64 (getI ((sec.drop 4).take 8)), .int .i64 (getI ((sec.drop 12).take 8)), v, u32 (w32 (getI ((sec.drop 20).take 4)))] 138 :: tblA pt :: blk b1 [.int .i64 0, .int .i64 0, .slice none 0 0, u32 0] 138 :: R) w := H'
        have ev5 : (hN sec i ++ [.int .i64 (hNum sec i)] : List Value) = hN sec (i + 1) := hN_succ sec i
        rw [ev5] at H'; have H := H'.l7; clear H'; have sv5 := H.says 3 rfl (fun h q => q.slc)
        refine s_Q 1 [2] rfl (by kernel_rfl) (s_put rfl rfl (n_store 4 H rfl rfl rfl rfl (vs := [v5]) sv5.cells (one_cons sv5.one one_nil) (by kernel_rfl) (by simp) (out := [.int .i64 (getI ((sec.drop 4).take 8)), .int .i64 (getI ((sec.drop 12).take 8)), v5, u32 (w32 (getI ((sec.drop 20).take 4)))]) rfl) ?_); rintro w H'; have H := H'.l7; clear H'; refine s_end (s_region (s_do rfl rfl rfl (d_add64 rfl rfl rfl (r := (i : Int) + 1) (by omega) (by omega)) (s_M 1 rfl rfl (s_end ?_)))); replace H := H.d.f5.f5.f5.f4.f4.f5; intro _ hF; refine ⟨⟨i + 1, v5⟩, (hF.co rfl (by go_num) (hF.all rfl)), ⟨H, ?_⟩, ?_⟩
        ·refine ⟨by omega, fun j h => ?_⟩; rcases Nat.lt_or_ge j i with q | q
         ·exact hall j q
         ·obtain rfl : j = i := by omega
          unfold hNum; omega
        ·omega
      ·obtain rfl : i = m := by omega
       refine k_exit (k_here (k_seq (k_seq (s_region (s_C rfl rfl rfl rfl rfl (fun w => Tryz.call134 _ w) (bare_c _ b (o + (26 + 4 * i)) (252 - (26 + 4 * i)) (c - (26 + 4 * i)) ((sec.drop (26 + 4 * i)).take (252 - (26 + 4 * i))) _ (fun h q => (hA h q).cut (lo := (26 + 4 * i)) (m := (252 - (26 + 4 * i))) (c' := (c - (26 + 4 * i))) (by omega) (by omega) (by omega)) (by omega)) H.f2.f2 rfl ?_))))); rintro _ w _ ⟨rfl, rfl⟩ H'; have H := H'.l6; clear H'; refine s_do rfl rfl rfl (d_not_dec rfl rfl) (s_end (k_dec rfl (fun h7 => ?_) (fun h7 => ?_)))
       ·refine k_seq (s_region (s_do rfl rfl rfl (d_build rfl rfl (out := [.int .i64 0, .int .i64 0, .slice none 0 0, u32 0]) (by kernel_rfl)) (s_put rfl rfl (n_store 5 H rfl rfl rfl rfl (vs := [.int .i64 0, .int .i64 0, .slice none 0 0, u32 0]) rfl (by simp [u8, u32, Value.oneCell']) (by kernel_rfl) (by simp) (out := [.int .i64 0, .int .i64 0, .slice none 0 0, u32 0]) rfl) ?_))); rintro w H'; have H := H'.l6; clear H'; refine s_M 1 rfl rfl (s_end (k_ret (doneL rfl [.agg #[.int .i64 0, .int .i64 0, .slice none 0 0, u32 0], .bool false] ⟨⟨_, _, rfl, run_loadBlk (by kernel_rfl) (H.blk 5 rfl) (vs := [.int .i64 0, .int .i64 0, .slice none 0 0, u32 0]) rfl⟩, ⟨rfl, trivial⟩⟩ (v := .tuple #[.agg #[.int .i64 0, .int .i64 0, .slice none 0 0, u32 0], .bool false]) rfl ?_))); exact ⟨[tblA pt, A], .inr ⟨by first | exact fun q => hs q.1 | (rintro ⟨q0, q1, q2, q3, q4, q5⟩; first | (exfalso; omega) | exact absurd (q4 i (by omega)) ‹_› | (rw [hm2] at q5; exact absurd q5 ‹_›)), rfl, rfl⟩, H.perm 6 [4, 1] rfl rfl⟩
       ·refine k_skip (k_seq (s_region (s_do rfl rfl rfl (d_loadAgg rfl rfl (vs := [.int .i64 (getI ((sec.drop 4).take 8)), .int .i64 (getI ((sec.drop 12).take 8)), v, u32 (w32 (getI ((sec.drop 20).take 4)))]) (by kernel_rfl) (here ((H.blk 3 rfl).part 0 4 _ rfl))) (s_put rfl rfl (n_store 5 H rfl rfl rfl rfl (vs := [.int .i64 (getI ((sec.drop 4).take 8)), .int .i64 (getI ((sec.drop 12).take 8)), v, u32 (w32 (getI ((sec.drop 20).take 4)))]) rfl (one_cons rfl (one_cons rfl (one_cons sv.one (one_cons rfl one_nil)))) (by kernel_rfl) (by simp) (out := [.int .i64 (getI ((sec.drop 4).take 8)), .int .i64 (getI ((sec.drop 12).take 8)), v, u32 (w32 (getI ((sec.drop 20).take 4)))]) rfl) ?_)))); rintro w H'; have H := H'.l6; clear H'; refine s_M 1 rfl rfl (s_end (k_ret (doneL rfl [.agg #[.int .i64 (getI ((sec.drop 4).take 8)), .int .i64 (getI ((sec.drop 12).take 8)), v, u32 (w32 (getI ((sec.drop 20).take 4)))], .bool true] ⟨⟨_, _, rfl, run_loadBlk (by kernel_rfl) (H.blk 5 rfl) (vs := [.int .i64 (getI ((sec.drop 4).take 8)), .int .i64 (getI ((sec.drop 12).take 8)), v, u32 (w32 (getI ((sec.drop 20).take 4)))]) rfl⟩, ⟨rfl, trivial⟩⟩ (v := .tuple #[.agg #[.int .i64 (getI ((sec.drop 4).take 8)), .int .i64 (getI ((sec.drop 12).take 8)), v, u32 (w32 (getI ((sec.drop 20).take 4)))], .bool true]) rfl ?_))); subst hm2; exact ⟨[grow 3 1 v (hCnt sec) (hN sec (hCnt sec)), tblA pt, A], .inl ⟨⟨hs, by omega, by omega, by omega, hall, by omega⟩, v, rfl, rfl⟩, H.perm 6 [2, 4, 1] rfl rfl⟩
 ·have H := H'.l3; clear H'; refine s_M 3 rfl rfl (s_go rfl rfl rfl (n_alloc (P := Tryz.prog) H rfl (zs := [.slice none 0 0]) (by kernel_rfl)) ?_); rintro _ w ⟨b6, rfl, H'⟩; have H := H'.l4; clear H'; refine s_put rfl rfl (n_store 0 H rfl rfl rfl rfl (vs := [.slice none 0 0]) rfl (by simp [u8, u32, Value.oneCell']) (by kernel_rfl) (by simp) (out := [.slice none 0 0]) rfl) ?_; rintro w H'; have H := H'.l4; clear H'; refine s_M 1 rfl rfl (s_end (k_seq (k_seq (s_region (s_M 2 rfl rfl (s_end (k_true rfl (k_seq (s_region (s_do rfl rfl rfl (d_build rfl rfl (out := [.int .i64 0, .int .i64 0, .slice none 0 0, u32 0]) (by kernel_rfl)) (s_put rfl rfl (n_store 3 H rfl rfl rfl rfl (vs := [.int .i64 0, .int .i64 0, .slice none 0 0, u32 0]) rfl (by simp [u8, u32, Value.oneCell']) (by kernel_rfl) (by simp) (out := [.int .i64 0, .int .i64 0, .slice none 0 0, u32 0]) rfl) ?_))))))))))); rintro w H'; have H := H'.l4; clear H'; refine s_M 1 rfl rfl (s_end (k_ret (doneL rfl [.agg #[.int .i64 0, .int .i64 0, .slice none 0 0, u32 0], .bool false] ⟨⟨_, _, rfl, run_loadBlk (by kernel_rfl) (H.blk 3 rfl) (vs := [.int .i64 0, .int .i64 0, .slice none 0 0, u32 0]) rfl⟩, ⟨rfl, trivial⟩⟩ (v := .tuple #[.agg #[.int .i64 0, .int .i64 0, .slice none 0 0, u32 0], .bool false]) rfl ?_))); exact ⟨[tblA pt, A], .inr ⟨by first | exact fun q => hs q.1 | (rintro ⟨q0, q1, q2, q3, q4, q5⟩; first | (exfalso; omega) | exact absurd (q4 i (by omega)) ‹_› | (rw [hm2] at q5; exact absurd q5 ‹_›)), rfl, rfl⟩, H.perm 4 [1, 2] rfl rfl⟩
theorem getImage_c (pt b o c : Nat) (sec : List UInt8) (A : Asn) (hA : ∀ h, A h → rdH 1 (.slice (some ⟨b, o, none⟩) 256 c) 256 (sec.map u8) h) : Cn Tryz.prog 138 [.pointer (some ⟨pt, 0, none⟩), .slice (some ⟨b, o, none⟩) 256 c] [tblA pt, A] (fun v Γ => (imgP sec ∧ ∃ g cap rest, v = .tuple #[.int .i64 (getI ((sec.drop 3).take 4)), .int .i64 (getI ((sec.drop 7).take 5)), .agg #[.int .i64 (getI ((sec.drop 1).take 2)), .int .i64 (getI (sec.take 1)), .slice (some ⟨g, 0, none⟩) 240 cap], .bool true] ∧ (240 ≤ cap ∧ cap ≤ 9223372036854775807 ∧ rest.length = cap - 240) ∧ Γ = [blk g (((sec.drop 12).take 240).map u8 ++ rest) 5, tblA pt, A]) ∨ (¬ imgP sec ∧ v = .tuple #[.int .i64 0, .int .i64 0, .agg #[.int .i64 0, .int .i64 0, .slice none 0 0], .bool false] ∧ Γ = [tblA pt, A])) := by
 intro z R w H'; have H : Sep z (tblA pt :: A :: R) w := H'
 clear H'; have hsl := H.says 1 rfl (fun h q => (hA h q).len)
 have hcb := H.says 1 rfl (fun h q => (hA h q).cap)
 obtain ⟨c0, c1, c2, c3, hd⟩ := four hsl; refine enter Tryz.func138 rfl 60 Tryz.ntmps138 rfl (k_seq (s_region (s_M 2 rfl rfl (s_go rfl rfl rfl (n_alloc (P := Tryz.prog) H rfl (zs := [.int .i64 0, .int .i64 0, .slice none 0 0]) (by kernel_rfl)) ?_)))); rintro _ w ⟨b1, rfl, H'⟩; have H := H'.l3; clear H'; refine s_M 1 rfl rfl (s_end (k_seq (k_seq (q_region (Sep z _) (by kernel_rfl) (by kernel_rfl) H.drew (q_M 1 [] rfl (by kernel_rfl) (q_do rfl rfl rfl (d_len rfl (z := 1) (by kernel_rfl) rfl) (q_M 1 [] rfl (by kernel_rfl) (k_updA 15 (u := .bool (decide ((256 : Int) ≠ 256))) (v := .bool false) rfl (congrArg Value.bool (by decide)) (q_M 2 [] rfl (by kernel_rfl) (q_do rfl rfl rfl (d_eql_pn rfl (by kernel_rfl) rfl rfl) (q_M 3 [] rfl (by kernel_rfl) (q_do rfl rfl rfl (d_sliceC rfl (z := 1) (p := 252) (q := 256) (o' := o + 252) (l' := 4) (c' := c - 252) (by kernel_rfl) rfl (.inr ⟨_, _, _, rfl, rfl, rfl⟩) (.inl ⟨rfl, rfl⟩) (by omega) (by omega) (by omega) (by omega) (by omega) (by omega)) (q_do rfl rfl rfl (d_arrayAt (m := 4) rfl (by kernel_rfl) rfl (by omega)) ?_))))))))))))); refine q_do rfl rfl rfl (d_loadAgg rfl rfl (vs := [u8 c0, u8 c1, u8 c2, u8 c3]) (by kernel_rfl) (fun _ hx => hx.cell4 2 rfl hA hd)) (q_M 2 [] rfl (by kernel_rfl) (q_do rfl rfl rfl (d_sliceC rfl (z := 1) (p := 0) (q := 252) (o' := o) (l' := 252) (c' := c) (by kernel_rfl) rfl (.inl ⟨rfl, rfl⟩) (.inr ⟨_, _, _, rfl, rfl, rfl⟩) (by omega) (by omega) (by omega) (by omega) (by omega) (by omega)) (q_call rfl rfl rfl rfl rfl (fun w => Tryz.call132 _ w) (v := .agg #[u8 ((crcSum (sec.take 252)).toUInt8), u8 (((crcSum (sec.take 252)) >>> 8).toUInt8), u8 (((crcSum (sec.take 252)) >>> 16).toUInt8), u8 (((crcSum (sec.take 252)) >>> 24).toUInt8)]) (cq (csum_c _ _ _ (sec.take 252) (by simp [hsl]) _ (fun h q => (hA h q).pre (by omega) (by omega))) (by rintro _ _ ⟨rfl, rfl⟩; exact ⟨rfl, rfl⟩) 3 [1, 2, 0] [2, 0, 1] rfl rfl rfl rfl) (q_do rfl rfl rfl (d_neqA4 rfl (by kernel_rfl) (by kernel_rfl) rfl rfl) (q_M 1 [] rfl (by kernel_rfl) (q_end (fun w H' => ?_)))))))
 have H := H'.l3; clear H'; refine k_dec rfl (fun h1 => ?_) (fun h1 => ?_)
 ·refine k_seq (s_region (s_do rfl rfl rfl (d_build rfl rfl (out := [.int .i64 0, .int .i64 0, .slice none 0 0]) (by kernel_rfl)) (s_M 2 rfl rfl (s_put rfl rfl (n_store 0 H rfl rfl rfl rfl (vs := [.int .i64 0, .int .i64 0, .slice none 0 0]) rfl (by simp [u8, u32, Value.oneCell']) (by kernel_rfl) (by simp) (out := [.int .i64 0, .int .i64 0, .slice none 0 0]) rfl) ?_)))); rintro w H'; have H := H'.l3; clear H'; refine s_M 1 rfl rfl (s_end (k_ret (doneL rfl [.int .i64 0, .int .i64 0, .agg #[.int .i64 0, .int .i64 0, .slice none 0 0], .bool false] ⟨rfl, ⟨rfl, ⟨⟨_, _, rfl, run_loadBlk (by kernel_rfl) (H.blk 0 rfl) (vs := [.int .i64 0, .int .i64 0, .slice none 0 0]) rfl⟩, ⟨rfl, trivial⟩⟩⟩⟩ (v := .tuple #[.int .i64 0, .int .i64 0, .agg #[.int .i64 0, .int .i64 0, .slice none 0 0], .bool false]) rfl ?_))); exact ⟨[tblA pt, A], .inr ⟨by rintro ⟨q1, q2, q3⟩; first | exact absurd (hd ▸ q1) ‹_› | (exfalso; omega), rfl, rfl⟩, H.perm 3 [1, 2] rfl rfl⟩
 ·refine k_skip (k_seq (s_region (s_M 1 rfl rfl (s_do rfl rfl rfl (d_sliceC rfl (z := 1) (p := 0) (q := 252) (o' := o) (l' := 252) (c' := c) (by kernel_rfl) rfl (.inl ⟨rfl, rfl⟩) (.inr ⟨_, _, _, rfl, rfl, rfl⟩) (by omega) (by omega) (by omega) (by omega) (by omega) (by omega)) (s_do rfl rfl rfl (d_build rfl rfl (out := [.slice (some ⟨b, o, none⟩) 252 c]) (by kernel_rfl)) (s_go rfl rfl rfl (n_alloc (P := Tryz.prog) H rfl (zs := [.slice none 0 0]) (by kernel_rfl)) ?_)))))); rintro _ w ⟨b2, rfl, H'⟩; have H := H'.l4; clear H'; refine s_put rfl rfl (n_store 0 H rfl rfl rfl rfl (vs := [.slice (some ⟨b, o, none⟩) 252 c]) rfl (by simp [u8, u32, Value.oneCell']) (by kernel_rfl) (by simp) (out := [.slice (some ⟨b, o, none⟩) 252 c]) rfl) ?_; rintro w H'; have H := H'.l4; clear H'; refine s_end (k_seq (s_region (s_C rfl rfl rfl rfl rfl (fun w => Tryz.call100 _ w) (get_c 1 _ b o 252 c (sec.take 252) _ (fun h q => (hA h q).pre (m := 252) (c' := c) (by omega) (by omega)) (by omega) (by omega) (sec.take 1) (by rw [List.take_take, Nat.min_eq_left (by omega)]) (o + 1) 251 (c - 1) (by omega) (by omega) (by omega)) H.f3.f1 rfl ?_))); rintro _ w _ ⟨rfl, rfl⟩ H'; have H := H'.l4; clear H'; refine s_C rfl rfl rfl rfl rfl (fun w => Tryz.call100 _ w) (get_c 2 _ b (o + 1) 251 (c - 1) ((sec.drop 1).take 251) _ (fun h q => (hA h q).cut (lo := 1) (m := 251) (c' := (c - 1)) (by omega) (by omega) (by omega)) (by omega) (by omega) ((sec.drop 1).take 2) (by rw [List.take_take, Nat.min_eq_left (by omega)]) (o + 3) 249 (c - 3) (by omega) (by omega) (by omega)) H rfl ?_
  rintro _ w _ ⟨rfl, rfl⟩ H'; have H := H'.l4; clear H'; refine s_C rfl rfl rfl rfl rfl (fun w => Tryz.call100 _ w) (get_c 4 _ b (o + 3) 249 (c - 3) ((sec.drop 3).take 249) _ (fun h q => (hA h q).cut (lo := 3) (m := 249) (c' := (c - 3)) (by omega) (by omega) (by omega)) (by omega) (by omega) ((sec.drop 3).take 4) (by rw [List.take_take, Nat.min_eq_left (by omega)]) (o + 7) 245 (c - 7) (by omega) (by omega) (by omega)) H rfl ?_; rintro _ w _ ⟨rfl, rfl⟩ H'; have H := H'.l4; clear H'; refine s_C rfl rfl rfl rfl rfl (fun w => Tryz.call100 _ w) (get_c 5 _ b (o + 7) 245 (c - 7) ((sec.drop 7).take 245) _ (fun h q => (hA h q).cut (lo := 7) (m := 245) (c' := (c - 7)) (by omega) (by omega) (by omega)) (by omega) (by omega) ((sec.drop 7).take 5) (by rw [List.take_take, Nat.min_eq_left (by omega)]) (o + 12) 240 (c - 12) (by omega) (by omega) (by omega)) H rfl ?_; rintro _ w _ ⟨rfl, rfl⟩ H'; have H := H'.l4; clear H'; refine s_M 4 rfl rfl (s_end (k_seq (k_seq (s_region (s_M 3 rfl rfl (s_part 41 rfl (fun h2 => ?_) (fun h2 => ?_)))))))
  ·refine s_M 8 rfl rfl (s_end (k_true rfl (k_seq (s_region (s_do rfl rfl rfl (d_build rfl rfl (out := [.int .i64 0, .int .i64 0, .slice none 0 0]) (by kernel_rfl)) (s_M 2 rfl rfl (s_put rfl rfl (n_store 2 H rfl rfl rfl rfl (vs := [.int .i64 0, .int .i64 0, .slice none 0 0]) rfl (by simp [u8, u32, Value.oneCell']) (by kernel_rfl) (by simp) (out := [.int .i64 0, .int .i64 0, .slice none 0 0]) rfl) ?_))))))); rintro w H'; have H := H'.l4; clear H'; refine s_M 1 rfl rfl (s_end (k_ret (doneL rfl [.int .i64 0, .int .i64 0, .agg #[.int .i64 0, .int .i64 0, .slice none 0 0], .bool false] ⟨rfl, ⟨rfl, ⟨⟨_, _, rfl, run_loadBlk (by kernel_rfl) (H.blk 2 rfl) (vs := [.int .i64 0, .int .i64 0, .slice none 0 0]) rfl⟩, ⟨rfl, trivial⟩⟩⟩⟩ (v := .tuple #[.int .i64 0, .int .i64 0, .agg #[.int .i64 0, .int .i64 0, .slice none 0 0], .bool false]) rfl ?_))); exact ⟨[tblA pt, A], .inr ⟨by rintro ⟨q1, q2, q3⟩; first | exact absurd (hd ▸ q1) ‹_› | (exfalso; omega), rfl, rfl⟩, H.perm 4 [3, 1] rfl rfl⟩
  ·refine s_M 4 rfl rfl (s_part 45 rfl (fun h3 => ?_) (fun h3 => ?_))
   ·refine s_M 4 rfl rfl (s_end (k_true rfl (k_seq (s_region (s_do rfl rfl rfl (d_build rfl rfl (out := [.int .i64 0, .int .i64 0, .slice none 0 0]) (by kernel_rfl)) (s_M 2 rfl rfl (s_put rfl rfl (n_store 2 H rfl rfl rfl rfl (vs := [.int .i64 0, .int .i64 0, .slice none 0 0]) rfl (by simp [u8, u32, Value.oneCell']) (by kernel_rfl) (by simp) (out := [.int .i64 0, .int .i64 0, .slice none 0 0]) rfl) ?_))))))); rintro w H'; have H := H'.l4; clear H'; refine s_M 1 rfl rfl (s_end (k_ret (doneL rfl [.int .i64 0, .int .i64 0, .agg #[.int .i64 0, .int .i64 0, .slice none 0 0], .bool false] ⟨rfl, ⟨rfl, ⟨⟨_, _, rfl, run_loadBlk (by kernel_rfl) (H.blk 2 rfl) (vs := [.int .i64 0, .int .i64 0, .slice none 0 0]) rfl⟩, ⟨rfl, trivial⟩⟩⟩⟩ (v := .tuple #[.int .i64 0, .int .i64 0, .agg #[.int .i64 0, .int .i64 0, .slice none 0 0], .bool false]) rfl ?_))); exact ⟨[tblA pt, A], .inr ⟨by rintro ⟨q1, q2, q3⟩; first | exact absurd (hd ▸ q1) ‹_› | (exfalso; omega), rfl, rfl⟩, H.perm 4 [3, 1] rfl rfl⟩
   ·refine s_M 1 rfl rfl (s_C rfl rfl rfl rfl rfl (fun w => Tryz.call101 _ w) (in_c _ _) H rfl ?_); rintro _ w _ ⟨rfl, rfl⟩ H'; have H := H'.l4; clear H'; refine s_do rfl rfl rfl (d_not_dec rfl rfl) (s_M 1 rfl rfl (s_end (k_dec rfl (fun h4 => ?_) (fun h4 => ?_))))
    ·refine k_seq (s_region (s_do rfl rfl rfl (d_build rfl rfl (out := [.int .i64 0, .int .i64 0, .slice none 0 0]) (by kernel_rfl)) (s_M 2 rfl rfl (s_put rfl rfl (n_store 2 H rfl rfl rfl rfl (vs := [.int .i64 0, .int .i64 0, .slice none 0 0]) rfl (by simp [u8, u32, Value.oneCell']) (by kernel_rfl) (by simp) (out := [.int .i64 0, .int .i64 0, .slice none 0 0]) rfl) ?_)))); rintro w H'; have H := H'.l4; clear H'; refine s_M 1 rfl rfl (s_end (k_ret (doneL rfl [.int .i64 0, .int .i64 0, .agg #[.int .i64 0, .int .i64 0, .slice none 0 0], .bool false] ⟨rfl, ⟨rfl, ⟨⟨_, _, rfl, run_loadBlk (by kernel_rfl) (H.blk 2 rfl) (vs := [.int .i64 0, .int .i64 0, .slice none 0 0]) rfl⟩, ⟨rfl, trivial⟩⟩⟩⟩ (v := .tuple #[.int .i64 0, .int .i64 0, .agg #[.int .i64 0, .int .i64 0, .slice none 0 0], .bool false]) rfl ?_))); exact ⟨[tblA pt, A], .inr ⟨by rintro ⟨q1, q2, q3⟩; first | exact absurd (hd ▸ q1) ‹_› | (exfalso; omega), rfl, rfl⟩, H.perm 4 [3, 1] rfl rfl⟩
    ·refine k_skip (k_seq (s_region (s_L 6 [0, 0] (mm1 (H.blk 0 rfl) mm0) rfl (by kernel_rfl) rfl (s_C rfl rfl rfl rfl rfl (fun w => Tryz.call97 _ w) (clone_c _ _ 240 _ ((sec.drop 12).take 240) _ ((fun h q => (hA h q).cut (lo := 12) (m := 240) (c' := (c - 12)) (by omega) (by omega) (by omega))) (by omega)) H.f1 rfl ?_)))); rintro _ w _ ⟨g, cap, rest, rfl, ⟨cg, cc, cl⟩, rfl⟩ H'; have H := H'.l5; clear H'; refine s_do rfl rfl rfl (d_build rfl rfl (out := [.int .i64 (getI (sec.take 1)), .slice (some ⟨g, 0, none⟩) 240 cap]) (by kernel_rfl)) (s_do rfl rfl rfl (d_build rfl rfl (out := [.int .i64 (getI ((sec.drop 1).take 2)), .int .i64 (getI (sec.take 1)), .slice (some ⟨g, 0, none⟩) 240 cap]) (by kernel_rfl)) (s_M 2 rfl rfl (s_put rfl rfl (n_store 3 H rfl rfl rfl rfl (vs := [.int .i64 (getI ((sec.drop 1).take 2)), .int .i64 (getI (sec.take 1)), .slice (some ⟨g, 0, none⟩) 240 cap]) rfl (by simp [u8, u32, Value.oneCell']) (by kernel_rfl) (by simp) (out := [.int .i64 (getI ((sec.drop 1).take 2)), .int .i64 (getI (sec.take 1)), .slice (some ⟨g, 0, none⟩) 240 cap]) rfl) ?_))); rintro w H'; have H := H'.l5; clear H'; refine s_M 1 rfl rfl (s_end (k_ret (doneL rfl [.int .i64 (getI ((sec.drop 3).take 4)), .int .i64 (getI ((sec.drop 7).take 5)), .agg #[.int .i64 (getI ((sec.drop 1).take 2)), .int .i64 (getI (sec.take 1)), .slice (some ⟨g, 0, none⟩) 240 cap], .bool true] ⟨rfl, ⟨rfl, ⟨⟨_, _, rfl, run_loadBlk (by kernel_rfl) (H.blk 3 rfl) (vs := [.int .i64 (getI ((sec.drop 1).take 2)), .int .i64 (getI (sec.take 1)), .slice (some ⟨g, 0, none⟩) 240 cap]) rfl⟩, ⟨rfl, trivial⟩⟩⟩⟩ (v := .tuple #[.int .i64 (getI ((sec.drop 3).take 4)), .int .i64 (getI ((sec.drop 7).take 5)), .agg #[.int .i64 (getI ((sec.drop 1).take 2)), .int .i64 (getI (sec.take 1)), .slice (some ⟨g, 0, none⟩) 240 cap], .bool true]) rfl ?_)))
     exact ⟨[blk g (((sec.drop 12).take 240).map u8 ++ rest) 5, tblA pt, A], .inl ⟨⟨by rw [hd]; exact Decidable.of_not_not ‹_›, by omega, by omega⟩, g, cap, rest, rfl, ⟨cg, cc, cl⟩, rfl⟩, H.perm 5 [0, 4, 1] rfl rfl⟩
end Go.Proofs.YtbegkbjigbkljaaGreatDoor
