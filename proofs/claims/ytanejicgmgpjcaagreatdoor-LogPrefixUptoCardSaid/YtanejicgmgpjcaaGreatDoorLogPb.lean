/-
  A log behind a crash: writes that fail; what Open reads; plainly. No condition.
-/
import Derived.Test.YtanejicgmgpjcaaGreatDoorLogPa
set_option maxRecDepth 100000
namespace Go.Proofs.YtanejicgmgpjcaaGreatDoor
variable {e q : Int} {ims : List Img}

/-! ### writes that fail -/
theorem PInv.fail0 {D : Dsk} {s : Sup} {rs : List Rc} {pt : List (List UInt8)} {a q u : Int} {sure : Nat} (h : PInv D s rs pt a q u false sure) : PInv D.wf s rs [] a (q + 1) u true sure := by
  obtain rfl := h.pb rfl
  have hq := h.fq
  rw [if_neg (by decide)] at hq
  exact ⟨h.fa, by rw [if_pos rfl]; omega, h.fu, h.ul, fun g => (by cases g), .inl rfl, h.recs, fun i hi c hc => h.old i hi c hc, fun i c hc => h.last i c hc, fun i c hc => h.dura i c hc, h.sure⟩
theorem PInv.fail1 {D : Dsk} {s : Sup} {rs : List Rc} {pt : List (List UInt8)} {a q u : Int} {sure : Nat} (h : PInv D s rs pt a q u false sure) (hs : SOk s) {k : Nat} (hl : 1 ≤ ims.length ∧ ims.length ≤ 40) (hok : ∀ m ∈ ims, m.Ok) (hr : 1 + (ims.length : Int) ≤ s.len - u) (hk : (k : Int) = min (1 + (ims.length : Int)) (s.len - a)) (hk2 : k < 1 + ims.length) :
    PInv (Dsk.wf (D.wr (s.start + a).toNat ((recB s.epoch q ims).take k))) s rs ((recB s.epoch q ims).take k) a (q + 1) u true sure := by
  obtain rfl := h.pb rfl
  have ha := h.at_ok hs
  have hu := h.fu
  have hq := h.fq
  rw [if_neg (by decide)] at hq
  have hpl := recB_len s.epoch q ims
  have hpk : ((recB s.epoch q ims).take k).length = k := by rw [List.length_take]; omega
  have hlow : ∀ j : Nat, j < k → (s.start + a).toNat + j = ringAt s (s.head + (((secs s.epoch rs).length + j : Nat) : Int)) := fun j hj => by
    rw [← h.ring, ring_low hs.start ha.1 (by omega)]
  have hhas : ∀ {n : Nat} {c : List UInt8}, Has (Dsk.wf (D.wr (s.start + a).toNat ((recB s.epoch q ims).take k))) n c → Has D n c ∨ ∃ j : Nat, ((recB s.epoch q ims).take k)[j]? = some c ∧ n = ringAt s (s.head + (((secs s.epoch rs).length + j : Nat) : Int)) := fun {n c} g => by
    rcases wr_has (D := D) (x := (s.start + a).toNat) (ps := (recB s.epoch q ims).take k) g with g | ⟨g1, g2⟩
    · exact .inl g
    · have hj := (List.getElem?_eq_some_iff.1 g2).1
      rw [hpk] at hj
      exact .inr ⟨_, g2, by rw [← hlow _ hj]; omega⟩
  have hfar : ∀ i : Nat, i < (secs s.epoch rs).length → ringAt s (s.head + i) < (s.start + a).toNat ∨ (s.start + a).toNat + ((recB s.epoch q ims).take k).length ≤ ringAt s (s.head + i) := fun i hi => by
    rw [hpk]
    rcases Nat.lt_or_ge (ringAt s (s.head + i)) (s.start + a).toNat with g | g
    · exact .inl g
    · rcases Nat.lt_or_ge (ringAt s (s.head + i)) ((s.start + a).toNat + k) with g2 | g2
      · have := hlow (ringAt s (s.head + i) - (s.start + a).toNat) (by omega)
        have := ring_inj (i := i) (j := (secs s.epoch rs).length + (ringAt s (s.head + i) - (s.start + a).toNat)) hs.start hs.head (by omega) (by omega) (by omega)
        omega
      · exact .inr g2
  have hno : ∀ i : Nat, i < (secs s.epoch rs).length → (Dsk.wf (D.wr (s.start + a).toNat ((recB s.epoch q ims).take k))).ver (ringAt s (s.head + i)) = D.ver (ringAt s (s.head + i)) := fun i hi => wr_out' D _ _ _ (hfar i hi)
  have hdur : (Dsk.wf (D.wr (s.start + a).toNat ((recB s.epoch q ims).take k))).dur = D.dur := ws_dur ((recB s.epoch q ims).take k) { D with f2 := tick D.f2 } _
  have hqs : q = s.seq + rs.length := by omega
  refine ⟨h.fa, by rw [if_pos rfl]; omega, h.fu, h.ul, fun g => (by cases g), .inr ⟨ims, k, ⟨hl, hok⟩, by rw [← hqs], hk2, by omega⟩, h.recs, fun i hi c hc => ?_, fun i c hc => ?_, fun i c hc => ?_, h.sure⟩
  · rcases hhas hc with hc | ⟨j, hj, hn⟩
    · rcases h.old i hi c hc with g | g
      · exact .inl g
      · rw [List.append_nil] at g
        exact .inr (by rw [List.getElem?_append_left (List.getElem?_eq_some_iff.1 g).1]; exact g)
    · have hjl := (List.getElem?_eq_some_iff.1 hj).1
      rw [hpk] at hjl
      have := ring_inj hs.start hs.head hi (by omega) hn
      subst this
      exact .inr (by rw [List.getElem?_append_right (by omega), Nat.add_sub_cancel_left]; exact hj)
  · rcases Nat.lt_or_ge i (secs s.epoch rs).length with g | g
    · rw [List.getElem?_append_left g] at hc
      have := h.last i c (by rw [List.append_nil]; exact hc)
      unfold Dsk.cont at this ⊢
      rw [hno i g, hdur]; exact this
    · rw [List.getElem?_append_right g] at hc
      have hjl := (List.getElem?_eq_some_iff.1 hc).1
      rw [hpk] at hjl
      have e1 := hlow (i - (secs s.epoch rs).length) hjl
      rw [show (secs s.epoch rs).length + (i - (secs s.epoch rs).length) = i from by omega] at e1
      rw [← e1]
      show (D.wr _ _).cont _ = c
      rw [wr_cont, if_pos (by omega), Nat.add_sub_cancel_left, hc]; rfl
  · have hil : i < (secs s.epoch rs).length := by
      have h1 := (List.getElem?_eq_some_iff.1 hc).1
      have h2 : (secs s.epoch rs).length = (secs s.epoch (rs.take sure)).length + (secs s.epoch (rs.drop sure)).length := by
        rw [← List.length_append, ← secs_app, List.take_append_drop]
      omega
    obtain ⟨h1, h2⟩ := h.dura i c hc
    exact ⟨by rw [hdur]; exact h1, by rw [hno i hil]; exact h2⟩
/-! ### behind a crash -/
/-- what the power leaves -/
structure Crashed (D D' : Dsk) : Prop where
  n : D'.n = D.n
  ver : ∀ i, D'.ver i = []
  dur : ∀ i, Has D i (D'.dur i)
theorem Crashed.has {D D' : Dsk} (h : Crashed D D') (n : Nat) (c : List UInt8) (hc : Has D' n c) : Has D n c := by
  rcases hc with rfl | hc
  · exact h.dur n
  · rw [h.ver] at hc; cases hc
theorem Crashed.cont {D D' : Dsk} (h : Crashed D D') (n : Nat) : D'.cont n = D'.dur n := by unfold Dsk.cont; rw [h.ver]; rfl
/-- a sector of the present generation that is read at a place is what was written there -/
theorem PInv.reads {D D' : Dsk} {s : Sup} {rs : List Rc} {pt : List (List UInt8)} {a q u : Int} {b : Bool} {sure : Nat} (h : PInv D s rs pt a q u b sure) (hc : Crashed D D') {i : Nat} (hi : (i : Int) < s.len) {q' : Int} (hq : s.seq ≤ q') (ht : Tg (D'.cont (ringAt s (s.head + i))) s.epoch q') : (secs s.epoch rs ++ pt)[i]? = some (D'.cont (ringAt s (s.head + i))) := by
  rcases h.old i hi (D'.cont (ringAt s (s.head + i))) (by rw [hc.cont]; exact hc.dur _) with g | g
  · have := g _ _ ht
    omega
  · exact g
theorem PInv.one {D D' : Dsk} {s : Sup} {rs : List Rc} {pt : List (List UInt8)} {a q u : Int} {b : Bool} {sure : Nat} (h : PInv D s rs pt a q u b sure) (hs : SOk s) (hc : Crashed D D') (hq : q ≤ 1099511627776) {n : Nat} (hn : n ≤ rs.length) {a' q' u' : Int} (hu : u' = ((secs s.epoch (rs.take n)).length : Int)) (ha : a' = (s.head + u') % s.len) (hq' : q' = s.seq + n)
    (hnx : nextP (stepF D' s a') s.epoch q' (s.len - u') ims) : ∃ r, rs[n]? = some r ∧ r = ⟨q', ims⟩ := by
  obtain ⟨n1, n2, n3, n4, n5, n6, n7⟩ := hnx
  have hF : ∀ j : Nat, stepF D' s a' j = D'.cont (ringAt s (s.head + (((secs s.epoch (rs.take n)).length + j : Nat) : Int))) := fun j => by
    show D'.cont (ringAt s (a' + j)) = _
    rw [ha, ring_mod]; congr 2; omega
  have hcnt := n1.2.2.2.1
  have rd : ∀ j : Nat, j ≤ hCnt (stepF D' s a' 0) → Tg (stepF D' s a' j) s.epoch q' → (secs s.epoch rs ++ pt)[(secs s.epoch (rs.take n)).length + j]? = some (stepF D' s a' j) := fun j hj ht => by
    rw [hF] at ht ⊢
    exact h.reads hc (by omega) (by omega) ht
  have h0 := rd 0 (by omega) (.inl ⟨n1, n2, n3⟩)
  have hi : ∀ j : Nat, j < hCnt (stepF D' s a' 0) → (secs s.epoch rs ++ pt)[(secs s.epoch (rs.take n)).length + (1 + j)]? = some (stepF D' s a' (1 + j)) := fun j hj => by
    obtain ⟨g1, g2, g3, _⟩ := n6 j hj
    exact rd (1 + j) (by omega) (.inr ⟨g1, g2, g3⟩)
  have hqq := h.fq
  have hsq := hs.seq
  rcases Nat.lt_or_ge n rs.length with hlt | hge
  · have hr : rs[n]? = some rs[n] := List.getElem?_eq_getElem hlt
    obtain ⟨r1, r2, r3⟩ := h.recs n _ hr
    refine ⟨_, hr, ?_⟩
    have hsp := secs_split s.epoch hr
    have hp := recB_len s.epoch rs[n].seq rs[n].ims
    have hat : ∀ j : Nat, j < 1 + rs[n].ims.length → (secs s.epoch rs ++ pt)[(secs s.epoch (rs.take n)).length + j]? = (recB s.epoch rs[n].seq rs[n].ims)[j]? := fun j hj => by
      rw [hsp, List.append_assoc, List.append_assoc, List.getElem?_append_right (by omega), Nat.add_sub_cancel_left, List.getElem?_append_left (by omega)]
    have e0 := hat 0 (by omega)
    rw [h0] at e0
    have hf0 : stepF D' s a' 0 = sect (hdL s.epoch rs[n].seq rs[n].ims) := by
      simp [recB] at e0; exact e0
    have hC : hCnt (stepF D' s a' 0) = rs[n].ims.length := by rw [hf0, hd_C r2.2]
    have hnx2 : nextP (stepF D' s a') s.epoch rs[n].seq (s.len - u') rs[n].ims := by
      refine next_rec r2 r3 hs.epoch (by split at hqq <;> omega) (by omega) fun j p hj => ?_
      have hjl := (List.getElem?_eq_some_iff.1 hj).1
      cases j with
      | zero => have := hat 0 (by omega); rw [h0, hj] at this; exact Option.some.inj this
      | succ j =>
        have h1 := hi j (by omega)
        rw [Nat.add_comm 1 j] at h1
        have := hat (j + 1) (by omega)
        rw [h1, hj] at this
        exact Option.some.inj this
    have hnx1 : nextP (stepF D' s a') s.epoch q' (s.len - u') ims := ⟨n1, n2, n3, n4, n5, n6, n7⟩
    have e1 : rs[n].seq = q' := by omega
    rw [e1] at hnx2
    have e2 := next_fun hnx1 hnx2
    rw [e2, ← e1]
  · have hn2 : n = rs.length := by omega
    subst hn2
    rw [List.take_length] at h0 hi
    rw [List.getElem?_append_right (by omega), Nat.add_zero, Nat.sub_self] at h0
    rcases h.part with rfl | ⟨jms, k, ⟨p1, p2⟩, rfl, p3, p4⟩
    · simp at h0
    · have hk0 : 0 < k := by
        have := (List.getElem?_eq_some_iff.1 h0).1
        rw [List.length_take] at this; omega
      rw [List.getElem?_take, if_pos hk0] at h0
      have hf0 : stepF D' s a' 0 = sect (hdL s.epoch (s.seq + rs.length) jms) := by
        simp [recB] at h0; exact h0.symm
      have hC : hCnt (stepF D' s a' 0) = jms.length := by rw [hf0, hd_C p1.2]
      have := hi (k - 1) (by omega)
      rw [List.getElem?_append_right (by omega), show (secs s.epoch rs).length + (1 + (k - 1)) - (secs s.epoch rs).length = k from by omega, List.getElem?_take, if_neg (by omega)] at this
      cases this
theorem PInv.begins {D D' : Dsk} {s : Sup} {rs : List Rc} {pt : List (List UInt8)} {a q u : Int} {b : Bool} {sure : Nat} (h : PInv D s rs pt a q u b sure) (hs : SOk s) (hc : Crashed D D') (hq : q ≤ 1099511627776) {got : List Rc} {a' q' u' : Int} (r : Runs D' s s.head s.seq 0 got a' q' u') : got.length ≤ rs.length ∧ got = rs.take got.length ∧ u' = ((secs s.epoch got).length : Int) ∧ a' = (s.head + u') % s.len ∧ q' = s.seq + got.length := by
  have hpos := r.pos hs.head
  refine (fun (g : got.length ≤ rs.length ∧ got = rs.take got.length ∧ u' = ((secs s.epoch got).length : Int)) => ⟨g.1, g.2.1, g.2.2, hpos.1, hpos.2.1⟩) ?_
  clear hpos
  induction r with
  | nil => exact ⟨by simp, by simp, by simp [secs]⟩
  | @snoc a' q' u' got ims r hlt hn ih =>
    have hpos := r.pos hs.head
    obtain ⟨i1, i2, i3⟩ := ih
    obtain ⟨r1, hr1, hr2⟩ := h.one hs hc hq i1 (by rw [← i2]; exact i3) hpos.1 hpos.2.1 hn
    have hlt2 := (List.getElem?_eq_some_iff.1 hr1).1
    refine ⟨by simp; omega, ?_, ?_⟩
    · rw [List.length_append, List.length_singleton, List.take_add_one, ← i2, hr1, hr2]; rfl
    · rw [secs_app, List.length_append, secs_one, recB_len]; dsimp only; omega
theorem PInv.read {D D' : Dsk} {s : Sup} {rs : List Rc} {pt : List (List UInt8)} {a q u : Int} {b : Bool} {sure : Nat} (h : PInv D s rs pt a q u b sure) (hs : SOk s) (hc : Crashed D D') (hq : q ≤ 1099511627776) {got : List Rc} {a' q' u' : Int} (r : Runs D' s s.head s.seq 0 got a' q' u') (hstop : s.len ≤ u' ∨ ∀ ims, ¬ nextP (stepF D' s a') s.epoch q' (s.len - u') ims) : sure ≤ got.length ∧ got.length ≤ rs.length ∧ got = rs.take got.length := by
  obtain ⟨g1, g2, g3, g4, g5⟩ := h.begins hs hc hq r
  refine ⟨?_, g1, g2⟩
  rcases Nat.lt_or_ge got.length sure with hlt | hge
  · exfalso
    have hsu := h.sure
    have hqq := h.fq
    have hsq := hs.seq
    obtain ⟨r0, hr⟩ : ∃ r0, rs[got.length]? = some r0 := ⟨_, List.getElem?_eq_getElem (by omega)⟩
    obtain ⟨r1, r2, r3⟩ := h.recs _ _ hr
    have hr' : (rs.take sure)[got.length]? = some r0 := by rw [List.getElem?_take, if_pos hlt]; exact hr
    have hsp := secs_split s.epoch hr'
    have hp := recB_len s.epoch r0.seq r0.ims
    have htk : (rs.take sure).take got.length = got := by rw [List.take_take, Nat.min_eq_left (by omega)]; exact g2.symm
    have hle : (secs s.epoch (rs.take sure)).length ≤ (secs s.epoch rs).length := by
      have h2 : (secs s.epoch rs).length = (secs s.epoch (rs.take sure)).length + (secs s.epoch (rs.drop sure)).length := by
        rw [← List.length_append, ← secs_app, List.take_append_drop]
      omega
    have hlen : (secs s.epoch got).length + (1 + r0.ims.length) ≤ (secs s.epoch (rs.take sure)).length := by
      rw [hsp, htk, List.length_append, List.length_append]; omega
    have hu := h.fu
    have hul := h.ul
    have hnx : nextP (stepF D' s a') s.epoch q' (s.len - u') r0.ims := by
      have e1 : q' = r0.seq := by omega
      rw [e1]
      refine next_rec r2 r3 hs.epoch (by split at hqq <;> omega) (by omega) fun j p hj => ?_
      have hjl := (List.getElem?_eq_some_iff.1 hj).1
      have hat : (secs s.epoch (rs.take sure))[(secs s.epoch got).length + j]? = some p := by
        rw [hsp, htk, List.append_assoc, List.getElem?_append_right (by omega), Nat.add_sub_cancel_left, List.getElem?_append_left (by omega)]; exact hj
      obtain ⟨d1, d2⟩ := h.dura _ _ hat
      show D'.cont (ringAt s (a' + j)) = p
      rw [g4, ring_mod, show s.head + u' + (j : Int) = s.head + (((secs s.epoch got).length + j : Nat) : Int) from by omega, hc.cont]
      rcases hc.dur (ringAt s (s.head + (((secs s.epoch got).length + j : Nat) : Int))) with g | g
      · rw [g, d1]
      · rw [d2] at g; cases g
    rcases hstop with g | g
    · omega
    · exact g _ hnx
  · exact hge
end Go.Proofs.YtanejicgmgpjcaaGreatDoor
