/-
  What is written reads back: records, plainly. No condition.
-/
import Derived.Test.YtanejicgmgpjcaaGreatDoorLogQ
set_option maxRecDepth 100000
namespace Go.Proofs.YtanejicgmgpjcaaGreatDoor

/-! ### fields of a sector -/
theorem getI_be {k : Nat} {x : Int} (h0 : 0 ≤ x) (h1 : x < 9223372036854775808) (hk : x < 256 ^ k) : getI (beN k x) = x := by
  obtain ⟨n, rfl⟩ := Int.eq_ofNat_of_zero_le h0
  have hn : beNat (beN k (n : Int)) = n := beN_nat k (by exact_mod_cast hk)
  unfold getI; rw [hn]
  exact IntWalk.i64_in _ (by omega)
theorem seg (a b c : List UInt8) {p k : Nat} (hp : p = a.length) (hk : k = b.length) : ((a ++ b ++ c).drop p).take k = b := by
  subst hp hk
  rw [List.append_assoc, List.drop_left' rfl, List.take_left' rfl]
theorem flat_seg (ns : List Int) : ∀ {j : Nat} {x : Int}, ns[j]? = some x → ((ns.flatMap (beN 4)).drop (4 * j)).take 4 = beN 4 x := by
  induction ns with
  | nil => intro j x h; simp at h
  | cons y ys ih =>
    intro j x h
    cases j with
    | zero =>
      simp at h; subst h
      rw [List.flatMap_cons, Nat.mul_zero, List.drop_zero, List.take_left' (beN_len 4 y)]
    | succ j =>
      rw [List.flatMap_cons, show 4 * (j + 1) = (beN 4 y).length + 4 * j from by rw [beN_len]; omega, List.drop_append]
      rw [List.drop_of_length_le (by omega), List.nil_append, show (beN 4 y).length + 4 * j - (beN 4 y).length = 4 * j from by omega]
      exact ih (by simpa using h)
variable {e sq : Int} {ims : List Img}
theorem hd_parts (e sq : Int) (ims : List Img) : hdL e sq ims = [80, 76, 79, 71] ++ beN 8 e ++ (beN 8 sq ++ beN 4 ((crcSum (imgB e sq ims)).toNat : Int) ++ beN 2 ((ims.map Img.num).length : Int) ++ (ims.map Img.num).flatMap (beN 4)) := by
  simp [hdL]
theorem hd_E (hl : ims.length ≤ 40) (h : 0 ≤ e ∧ e ≤ 1099511627776) : headE (sect (hdL e sq ims)) = e := by
  have hle := hdL_len e sq ims
  unfold headE
  rw [sect_head (by omega) (by omega), hd_parts, seg _ _ _ (by simp) (by simp [beN_len])]
  exact getI_be h.1 (by omega) (by omega)
theorem hd_S (hl : ims.length ≤ 40) (h : 0 ≤ sq ∧ sq ≤ 1099511627776) : headS (sect (hdL e sq ims)) = sq := by
  have hle := hdL_len e sq ims
  unfold headS
  rw [sect_head (by omega) (by omega), show hdL e sq ims = ([80, 76, 79, 71] ++ beN 8 e) ++ beN 8 sq ++ (beN 4 ((crcSum (imgB e sq ims)).toNat : Int) ++ beN 2 ((ims.map Img.num).length : Int) ++ (ims.map Img.num).flatMap (beN 4)) from by simp [hdL], seg _ _ _ (by simp [beN_len]) (by simp [beN_len])]
  exact getI_be h.1 (by omega) (by omega)
theorem hd_U (hl : ims.length ≤ 40) : headU (sect (hdL e sq ims)) = crcSum (imgB e sq ims) := by
  have hle := hdL_len e sq ims
  have hu := (crcSum (imgB e sq ims)).toNat_lt
  unfold headU
  rw [sect_head (by omega) (by omega), show hdL e sq ims = ([80, 76, 79, 71] ++ beN 8 e ++ beN 8 sq) ++ beN 4 ((crcSum (imgB e sq ims)).toNat : Int) ++ (beN 2 ((ims.map Img.num).length : Int) ++ (ims.map Img.num).flatMap (beN 4)) from by simp [hdL], seg _ _ _ (by simp [beN_len]) (by simp [beN_len])]
  rw [getI_be (by omega) (by omega) (by omega)]
  exact w32_of _
theorem hd_C (hl : ims.length ≤ 40) : hCnt (sect (hdL e sq ims)) = ims.length := by
  have hle := hdL_len e sq ims
  unfold hCnt
  rw [sect_head (by omega) (by omega), show hdL e sq ims = ([80, 76, 79, 71] ++ beN 8 e ++ beN 8 sq ++ beN 4 ((crcSum (imgB e sq ims)).toNat : Int)) ++ beN 2 ((ims.map Img.num).length : Int) ++ ((ims.map Img.num).flatMap (beN 4)) from by simp [hdL], seg _ _ _ (by simp [beN_len]) (by simp [beN_len])]
  rw [List.length_map, getI_be (by omega) (by omega) (by omega)]; rfl
theorem hd_N (hl : ims.length ≤ 40) {j : Nat} {m : Img} (hj : ims[j]? = some m) (hm : m.Ok) : hNum (sect (hdL e sq ims)) j = m.num := by
  have hle := hdL_len e sq ims
  have hjl := (List.getElem?_eq_some_iff.1 hj).1
  unfold hNum
  rw [sect_head (by omega) (by omega), show hdL e sq ims = ([80, 76, 79, 71] ++ beN 8 e ++ beN 8 sq ++ beN 4 ((crcSum (imgB e sq ims)).toNat : Int) ++ beN 2 ((ims.map Img.num).length : Int)) ++ ((ims.map Img.num).flatMap (beN 4)) from by simp [hdL]]
  have hpl : ([80, 76, 79, 71] ++ beN 8 e ++ beN 8 sq ++ beN 4 ((crcSum (imgB e sq ims)).toNat : Int) ++ beN 2 ((ims.map Img.num).length : Int)).length = 26 := by simp only [List.length_append, beN_len]; rfl
  rw [List.drop_append, List.drop_of_length_le (by rw [hpl]; omega), List.nil_append, hpl, show 26 + 4 * j - 26 = 4 * j from by omega]
  rw [flat_seg _ (x := m.num) (by simp [hj])]
  have := hm.1
  exact getI_be (by omega) (by omega) (by omega)
theorem hd_P (hl : 1 ≤ ims.length ∧ ims.length ≤ 40) (he : 0 ≤ e ∧ e ≤ 1099511627776) (hs : 0 ≤ sq ∧ sq ≤ 1099511627776) (hok : ∀ m ∈ ims, m.Ok) : headP (sect (hdL e sq ims)) := by
  have hle := hdL_len e sq ims
  have h1 := hd_E (sq := sq) hl.2 he
  have h2 := hd_S (e := e) hl.2 hs
  have h3 := hd_C (e := e) (sq := sq) hl.2
  unfold headE at h1
  unfold headS at h2
  refine ⟨⟨sect_sum (by omega), ?_⟩, by rw [h1]; exact he, by rw [h2]; exact hs, by rw [h3]; exact hl, fun j hj => ?_, ?_⟩
  · have := sect_head (l := hdL e sq ims) (by omega) (p := 0) (k := 4) (by omega)
    rw [List.drop_zero, List.drop_zero] at this
    rw [this, hd_parts, List.append_assoc]; rfl
  · rw [h3] at hj
    have hg := List.getElem?_eq_getElem hj
    rw [hd_N hl.2 hg (hok _ (List.getElem_mem hj))]
    exact (hok _ (List.getElem_mem hj)).1
  · rw [h3, ← hle]
    exact sect_rest (by omega)
theorem im_parts (e sq : Int) (m : Img) : imgL e sq m = beN 1 m.kind ++ beN 2 m.num ++ (beN 4 e ++ beN 5 sq ++ m.body) := by simp [imgL]
theorem im_all {m : Img} (hm : m.Ok) (he : 0 ≤ e ∧ e < 4294967296) (hs : 0 ≤ sq ∧ sq < 1099511627776) : imgP (sect (imgL e sq m)) ∧ imgX (sect (imgL e sq m)) = e ∧ imgY (sect (imgL e sq m)) = sq ∧ imgOf (sect (imgL e sq m)) = m := by
  have hb := hm.2.2
  have hle := imgL_len (e := e) (sq := sq) hb
  have h0 := hm.1
  have hk := hm.2.1
  have e1 : getI ((sect (imgL e sq m)).take 1) = m.kind := by
    have := sect_head (l := imgL e sq m) (by omega) (p := 0) (k := 1) (by omega)
    rw [List.drop_zero, List.drop_zero] at this
    rw [this, im_parts, List.append_assoc, List.take_left' (by rw [beN_len])]
    exact getI_be (by omega) (by omega) (by omega)
  have e2 : getI (((sect (imgL e sq m)).drop 1).take 2) = m.num := by
    rw [sect_head (by omega) (by omega), im_parts, seg _ _ _ (by simp [beN_len]) (by simp [beN_len])]
    exact getI_be (by omega) (by omega) (by omega)
  have e3 : getI (((sect (imgL e sq m)).drop 3).take 4) = e := by
    rw [sect_head (by omega) (by omega), show imgL e sq m = (beN 1 m.kind ++ beN 2 m.num) ++ beN 4 e ++ (beN 5 sq ++ m.body) from by simp [imgL], seg _ _ _ (by simp [beN_len]) (by simp [beN_len])]
    exact getI_be (by omega) (by omega) (by omega)
  have e4 : getI (((sect (imgL e sq m)).drop 7).take 5) = sq := by
    rw [sect_head (by omega) (by omega), show imgL e sq m = (beN 1 m.kind ++ beN 2 m.num ++ beN 4 e) ++ beN 5 sq ++ m.body from by simp [imgL], seg _ _ _ (by simp [beN_len]) (by simp [beN_len])]
    exact getI_be (by omega) (by omega) (by omega)
  have e5 : ((sect (imgL e sq m)).drop 12).take 240 = m.body := by
    rw [sect_head (by omega) (by omega), show imgL e sq m = (beN 1 m.kind ++ beN 2 m.num ++ beN 4 e ++ beN 5 sq) ++ m.body ++ [] from by simp [imgL], seg _ _ _ (by simp [beN_len]) (by omega)]
  refine ⟨⟨sect_sum (by omega), by rw [e1]; exact hk, by rw [e2]; exact h0⟩, e3, e4, ?_⟩
  unfold imgOf; rw [e1, e2, e5]
/-- a record's sectors read back as the record -/
theorem next_rec {F : Nat → List UInt8} {room : Int} (hl : 1 ≤ ims.length ∧ ims.length ≤ 40) (hok : ∀ m ∈ ims, m.Ok) (he : 0 ≤ e ∧ e < 4294967296) (hs : 0 ≤ sq ∧ sq < 1099511627776) (hr : 1 + (ims.length : Int) ≤ room)
    (hF : ∀ (j : Nat) (p : List UInt8), (recB e sq ims)[j]? = some p → F j = p) : nextP F e sq room ims := by
  have h0 : F 0 = sect (hdL e sq ims) := hF 0 _ rfl
  have hC := hd_C (e := e) (sq := sq) hl.2
  have hI : ∀ j (hj : j < ims.length), F (1 + j) = sect (imgL e sq ims[j]) := fun j hj => hF (1 + j) _ (by
    rw [Nat.add_comm]; simp [recB, hj])
  refine ⟨?_, ?_, ?_, ?_, ?_, ?_, ?_⟩
  · rw [h0]; exact hd_P hl (by omega) (by omega) hok
  · rw [h0]; exact hd_E hl.2 (by omega)
  · rw [h0]; exact hd_S hl.2 (by omega)
  · rw [h0, hC]; exact hr
  · rw [h0, hC]
    apply List.ext_getElem
    · simp
    · intro j h1 h2
      simp only [List.getElem_map, List.getElem_range]
      rw [hI j h1, (im_all (hok _ (List.getElem_mem h1)) he hs).2.2.2]
  · intro j hj
    rw [h0, hC] at hj
    obtain ⟨a, b, c, d⟩ := im_all (hok _ (List.getElem_mem hj)) he hs
    rw [hI j hj]
    refine ⟨a, b, c, ?_⟩
    rw [d, h0, hd_N hl.2 (List.getElem?_eq_getElem hj) (hok _ (List.getElem_mem hj))]
  · rw [h0, hC, hd_U hl.2]
    congr 1
    unfold imgB
    rw [List.flatMap_def, List.flatMap_def]
    congr 1
    apply List.ext_getElem
    · simp
    · intro j h1 h2
      simp only [List.getElem_map, List.getElem_range]
      exact hI j (by simpa using h2)
end Go.Proofs.YtanejicgmgpjcaaGreatDoor
