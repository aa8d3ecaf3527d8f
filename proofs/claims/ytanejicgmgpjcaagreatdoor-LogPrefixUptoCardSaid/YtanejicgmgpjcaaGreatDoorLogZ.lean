/-
  A ring of sectors: what is appended is what Open reads. No condition.
-/
import Derived.Test.YtanejicgmgpjcaaGreatDoorLogY
set_option maxRecDepth 100000
namespace Go.Proofs.YtanejicgmgpjcaaGreatDoor

/-! ### what a sector reads as behind writes -/
theorem ws_cont (ps : List (List UInt8)) : ∀ (D : Dsk) (x i : Nat), (D.ws false x ps).cont i = (if x ≤ i then ps[i - x]? else none).getD (D.cont i) := by
  induction ps with
  | nil => intro D x i; simp [Dsk.ws]
  | cons q qs ih =>
    intro D x i
    simp only [Dsk.ws]
    rw [ih]
    have hc : (D.w1 false x q).cont i = if i = x then q else D.cont i := by
      show ((upf D.ver x (D.ver x ++ [q])) i).getLast?.getD (D.dur i) = _
      unfold upf
      split
      · rename_i h; subst h; simp
      · rfl
    rw [hc]
    rcases Nat.lt_trichotomy i x with h | h | h
    · rw [if_neg (show ¬ x + 1 ≤ i by omega), if_neg (show ¬ i = x by omega), if_neg (show ¬ x ≤ i by omega)]
    · subst h
      rw [if_neg (show ¬ i + 1 ≤ i by omega), if_pos rfl, if_pos (Nat.le_refl i), Nat.sub_self]; rfl
    · rw [if_pos (show x + 1 ≤ i by omega), if_neg (show ¬ i = x by omega), if_pos (show x ≤ i by omega), show i - x = (i - (x + 1)) + 1 from by omega, List.getElem?_cons_succ]
theorem wr_cont (ps : List (List UInt8)) (D : Dsk) (x i : Nat) : (D.wr x ps).cont i = (if x ≤ i then ps[i - x]? else none).getD (D.cont i) := ws_cont ps { D with f2 := tick D.f2 } x i
/-! ### the ring -/
theorem ring_low {s : Sup} {a : Int} {j : Nat} (hs : 0 ≤ s.start) (ha : 0 ≤ a) (h : a + j < s.len) : ringAt s (a + j) = (s.start + a).toNat + j := by
  unfold ringAt
  rw [Int.emod_eq_of_lt (by omega) h]; omega
theorem ring_high {s : Sup} {a : Int} {j : Nat} (hs : 0 ≤ s.start) (h1 : s.len ≤ a + j) (h : a + j < s.len + s.len) : ringAt s (a + j) = s.start.toNat + (a + j - s.len).toNat := by
  unfold ringAt
  rw [← Int.sub_emod_right (a + j) s.len, Int.emod_eq_of_lt (by omega) (by omega)]; omega
theorem ring_mod {s : Sup} (a b : Int) : ringAt s (a % s.len + b) = ringAt s (a + b) := by
  unfold ringAt; rw [Int.emod_add_emod]
theorem ring_inj {s : Sup} {h : Int} {i j : Nat} (hs : 0 ≤ s.start) (hh : 0 ≤ h ∧ h < s.len) (hi : (i : Int) < s.len) (hj : (j : Int) < s.len) (e : ringAt s (h + i) = ringAt s (h + j)) : i = j := by
  rcases Int.lt_or_le (h + i) s.len with a | a <;> rcases Int.lt_or_le (h + j) s.len with b | b
  · rw [ring_low hs hh.1 a, ring_low hs hh.1 b] at e; omega
  · rw [ring_low hs hh.1 a, ring_high hs b (by omega)] at e; omega
  · rw [ring_high hs a (by omega), ring_low hs hh.1 b] at e; omega
  · rw [ring_high hs a (by omega), ring_high hs b (by omega)] at e; omega
/-- the disk behind an Append -/
def appD (D : Dsk) (s : Sup) (a : Int) (k : Nat) (ps : List (List UInt8)) : Dsk := if k < ps.length then (D.wr (s.start + a).toNat (ps.take k)).wr s.start.toNat (ps.drop k) else D.wr (s.start + a).toNat (ps.take k)
theorem app_new {D : Dsk} {s : Sup} {a : Int} {k : Nat} {ps : List (List UInt8)} (hs : 0 ≤ s.start) (ha : 0 ≤ a ∧ a < s.len) (hl : (ps.length : Int) ≤ s.len) (hk : (k : Int) = min (ps.length : Int) (s.len - a)) {j : Nat} {p : List UInt8} (hj : ps[j]? = some p) : (appD D s a k ps).cont (ringAt s (a + j)) = p := by
  have hjl := (List.getElem?_eq_some_iff.1 hj).1
  rcases Nat.lt_or_ge j k with h | h
  · have hr : ringAt s (a + j) = (s.start + a).toNat + j := ring_low hs ha.1 (by omega)
    have h1 : (D.wr (s.start + a).toNat (ps.take k)).cont ((s.start + a).toNat + j) = p := by
      rw [wr_cont, if_pos (by omega), show (s.start + a).toNat + j - (s.start + a).toNat = j from by omega, List.getElem?_take, if_pos h, hj]; rfl
    unfold appD
    split
    · rw [hr, wr_cont]
      have : (if s.start.toNat ≤ (s.start + a).toNat + j then (ps.drop k)[(s.start + a).toNat + j - s.start.toNat]? else none) = none := by
        rw [if_pos (by omega)]; exact List.getElem?_eq_none (by rw [List.length_drop]; omega)
      rw [this]; exact h1
    · rw [hr]; exact h1
  · have hr : ringAt s (a + j) = s.start.toNat + (a + j - s.len).toNat := ring_high hs (by omega) (by omega)
    unfold appD
    rw [if_pos (by omega), hr, wr_cont, if_pos (by omega), show s.start.toNat + (a + j - s.len).toNat - s.start.toNat = j - k from by omega, List.getElem?_drop, show k + (j - k) = j from by omega, hj]; rfl
theorem app_old {D : Dsk} {s : Sup} {a : Int} {k : Nat} {ps : List (List UInt8)} (hs : 0 ≤ s.start) (ha : 0 ≤ a ∧ a < s.len) (hl : (ps.length : Int) ≤ s.len) (hk : (k : Int) = min (ps.length : Int) (s.len - a)) {i : Nat} (hi : ∀ j : Nat, j < ps.length → i ≠ ringAt s (a + j)) : (appD D s a k ps).cont i = D.cont i := by
  have h1 : (D.wr (s.start + a).toNat (ps.take k)).cont i = D.cont i := by
    rw [wr_cont]
    split
    · rename_i h
      rw [List.getElem?_eq_none]; rfl
      rw [List.length_take]
      rcases Nat.lt_or_ge (i - (s.start + a).toNat) (min k ps.length) with q | q
      · exact absurd (by rw [ring_low hs ha.1 (by omega)]; omega) (hi (i - (s.start + a).toNat) (by omega))
      · exact q
    · rfl
  unfold appD
  split
  · rw [wr_cont]
    split
    · rename_i hk2 h
      rw [List.getElem?_eq_none]; exact h1
      rw [List.length_drop]
      rcases Nat.lt_or_ge (i - s.start.toNat) (ps.length - k) with q | q
      · exact absurd (by rw [ring_high hs (by omega) (by omega)]; omega) (hi (k + (i - s.start.toNat)) (by omega))
      · exact q
    · exact h1
  · exact h1
/-! ### what Open reads -/
theorem next_congr {F F' : Nat → List UInt8} {e sq room : Int} {ims : List Img} (h : ∀ j, j < 1 + ims.length → F' j = F j) (hn : nextP F e sq room ims) : nextP F' e sq room ims := by
  obtain ⟨h1, h2, h3, h4, h5, h6, h7⟩ := hn
  have hl : ims.length = hCnt (F 0) := by rw [h5]; simp
  have e0 : F' 0 = F 0 := h 0 (by omega)
  have ej : ∀ j, j < hCnt (F 0) → F' (1 + j) = F (1 + j) := fun j hj => h (1 + j) (by omega)
  refine ⟨by rw [e0]; exact h1, by rw [e0]; exact h2, by rw [e0]; exact h3, by rw [e0]; exact h4, ?_, ?_, ?_⟩
  · rw [e0, h5]
    exact List.map_congr_left fun j hj => by rw [ej j (by simpa using hj)]
  · rw [e0]; intro j hj; rw [ej j hj]; exact h6 j hj
  · rw [e0, ← h7]
    congr 1
    rw [List.flatMap_def, List.flatMap_def]
    congr 1
    exact List.map_congr_left fun j hj => by rw [ej j (by simpa using hj)]
theorem next_fun {F : Nat → List UInt8} {e sq room : Int} {a b : List Img} (h1 : nextP F e sq room a) (h2 : nextP F e sq room b) : a = b := by
  rw [h1.2.2.2.2.1, h2.2.2.2.2.1]
theorem Runs.pos {D : Dsk} {s : Sup} {h q0 : Int} {rs : List Rc} {a q u : Int} (hh : 0 ≤ h ∧ h < s.len) (r : Runs D s h q0 0 rs a q u) : a = (h + u) % s.len ∧ q = q0 + rs.length ∧ 0 ≤ u ∧ u ≤ s.len ∧ (rs.length : Int) ≤ u := by
  induction r with
  | nil => exact ⟨by rw [Int.add_zero, Int.emod_eq_of_lt hh.1 hh.2], by simp, by omega, by omega, by simp⟩
  | snoc r hlt hn ih =>
    obtain ⟨h1, h2, h3, h4, h5⟩ := ih
    have hl := hn.len
    refine ⟨?_, by rw [h2]; simp; omega, by omega, by omega, by simp; omega⟩
    rw [h1, Int.emod_add_emod, Int.add_assoc]
theorem Runs.det {D : Dsk} {s : Sup} {a0 q0 u0 : Int} {rs : List Rc} {a q u : Int} (r : Runs D s a0 q0 u0 rs a q u) : ∀ {rs' : List Rc} {a' q' u' : Int}, Runs D s a0 q0 u0 rs' a' q' u' → rs.length = rs'.length → rs = rs' ∧ a = a' ∧ q = q' ∧ u = u' := by
  induction r with
  | nil =>
    intro rs' a' q' u' r' hl
    cases r' with
    | nil => exact ⟨rfl, rfl, rfl, rfl⟩
    | snoc r' _ _ => simp at hl
  | snoc r hlt hn ih =>
    intro rs' a' q' u' r' hl
    cases r' with
    | nil => simp at hl
    | snoc r' hlt' hn' =>
      obtain ⟨rfl, rfl, rfl, rfl⟩ := ih r' (by simpa using hl)
      obtain rfl := next_fun hn hn'
      exact ⟨rfl, rfl, rfl, rfl⟩
theorem Runs.cut {D : Dsk} {s : Sup} {a0 q0 u0 : Int} {rs : List Rc} {a q u : Int} (r : Runs D s a0 q0 u0 rs a q u) : ∀ k, k < rs.length → ∃ rs' a' q' u', rs'.length = k ∧ Runs D s a0 q0 u0 rs' a' q' u' ∧ u' < s.len ∧ ∃ ims, nextP (stepF D s a') s.epoch q' (s.len - u') ims := by
  induction r with
  | nil => intro k hk; simp at hk
  | snoc r hlt hn ih =>
    intro k hk
    simp only [List.length_append, List.length_cons, List.length_nil] at hk
    rcases Nat.lt_or_ge k (List.length _) with h | h
    · exact ih k h
    · exact ⟨_, _, _, _, by omega, r, hlt, _, hn⟩
/-- what comes to its end comes to one end -/
theorem Runs.only {D : Dsk} {s : Sup} {a0 q0 u0 : Int} {rs rs' : List Rc} {a q u a' q' u' : Int} (r : Runs D s a0 q0 u0 rs a q u) (r' : Runs D s a0 q0 u0 rs' a' q' u')
    (hs : s.len ≤ u ∨ ∀ ims, ¬ nextP (stepF D s a) s.epoch q (s.len - u) ims) (hs' : s.len ≤ u' ∨ ∀ ims, ¬ nextP (stepF D s a') s.epoch q' (s.len - u') ims) : rs = rs' ∧ a = a' ∧ q = q' ∧ u = u' := by
  rcases Nat.lt_trichotomy rs.length rs'.length with h | h | h
  · obtain ⟨_, _, _, _, e1, e2, e3, ims, e4⟩ := r'.cut _ h
    obtain ⟨rfl, rfl, rfl, rfl⟩ := r.det e2 e1.symm
    rcases hs with g | g
    · omega
    · exact absurd e4 (g _)
  · exact r.det r' h
  · obtain ⟨_, _, _, _, e1, e2, e3, ims, e4⟩ := r.cut _ h
    obtain ⟨rfl, rfl, rfl, rfl⟩ := r'.det e2 e1.symm
    rcases hs' with g | g
    · omega
    · exact absurd e4 (g _)
/-- sectors that differ beyond what was read do not matter -/
theorem Runs.move {D D' : Dsk} {s : Sup} {h q0 : Int} (hh : 0 ≤ h ∧ h < s.len) {rs : List Rc} {a q u : Int} (r : Runs D s h q0 0 rs a q u) (hD : ∀ i : Nat, (i : Int) < u → D'.cont (ringAt s (h + i)) = D.cont (ringAt s (h + i))) : Runs D' s h q0 0 rs a q u := by
  induction r with
  | nil => exact .nil _ _ _
  | @snoc a' q' u' rs ims r hlt hn ih =>
    have hl := hn.len
    have hp := r.pos hh
    refine .snoc (ih (fun i hi => hD i (by omega))) hlt (next_congr (fun j hj => ?_) hn)
    show D'.cont (ringAt s (a' + j)) = D.cont (ringAt s (a' + j))
    rw [hp.1, ring_mod, show h + u' + (j : Int) = h + ((u'.toNat + j : Nat) : Int) from by omega]
    exact hD _ (by omega)
/-- a log as a law builds it: its records, then sectors that are no heads -/
structure LogInv (D : Dsk) (s : Sup) (rs : List Rc) (a q u : Int) : Prop where
  runs : Runs D s s.head s.seq 0 rs a q u
  rest : ∀ i : Nat, u ≤ i → (i : Int) < s.len → ¬ headP (D.cont (ringAt s (s.head + i)))
theorem LogInv.stop {D : Dsk} {s : Sup} {rs : List Rc} {a q u : Int} (hh : 0 ≤ s.head ∧ s.head < s.len) (h : LogInv D s rs a q u) : s.len ≤ u ∨ ∀ ims, ¬ nextP (stepF D s a) s.epoch q (s.len - u) ims := by
  rcases Int.lt_or_le u s.len with g | g
  · refine .inr fun ims hn => ?_
    have hp := h.runs.pos hh
    refine h.rest u.toNat (by omega) (by omega) ?_
    have h0 := hn.1
    have e : stepF D s a 0 = D.cont (ringAt s (s.head + u.toNat)) := by
      show D.cont (ringAt s (a + ((0 : Nat) : Int))) = _
      rw [hp.1, ring_mod]; congr 2; omega
    rwa [e] at h0
  · exact .inl g
theorem LogInv.app {D : Dsk} {s : Sup} {rs : List Rc} {a q u : Int} {ims : List Img} {k : Nat} (hs : 0 ≤ s.start) (hh : 0 ≤ s.head ∧ s.head < s.len) (h : LogInv D s rs a q u) (hl : 1 ≤ ims.length ∧ ims.length ≤ 40) (hok : ∀ m ∈ ims, m.Ok) (he : 0 ≤ s.epoch ∧ s.epoch < 4294967296) (hq : 0 ≤ q ∧ q < 1099511627776)
    (hr : 1 + (ims.length : Int) ≤ s.len - u) (hk : (k : Int) = min (1 + (ims.length : Int)) (s.len - a)) :
    LogInv (appD D s a k (recB s.epoch q ims)) s (rs ++ [⟨q, ims⟩]) ((a + (1 + (ims.length : Int))) % s.len) (q + 1) (u + (1 + (ims.length : Int))) := by
  have hp := h.runs.pos hh
  have hpl : (recB s.epoch q ims).length = 1 + ims.length := (recB_ok hok hl.2).2
  have ha : 0 ≤ a ∧ a < s.len := by rw [hp.1]; exact ⟨Int.emod_nonneg _ (by omega), Int.emod_lt_of_pos _ (by omega)⟩
  have hk' : (k : Int) = min ((recB s.epoch q ims).length : Int) (s.len - a) := by rw [hpl]; omega
  have hra : ∀ j : Nat, ringAt s (a + j) = ringAt s (s.head + ((u.toNat + j : Nat) : Int)) := fun j => by
    rw [hp.1, ring_mod]; congr 1; omega
  have hold : ∀ i : Nat, (i : Int) < s.len → ((i : Int) < u ∨ u + (1 + (ims.length : Int)) ≤ i) → (appD D s a k (recB s.epoch q ims)).cont (ringAt s (s.head + i)) = D.cont (ringAt s (s.head + i)) := fun i hi hu => by
    refine app_old hs ha (by omega) hk' fun j hj e => ?_
    rw [hra] at e
    have := ring_inj hs hh hi (by omega) e
    omega
  refine ⟨.snoc (h.runs.move hh fun i hi => hold i (by omega) (.inl hi)) (by omega) (next_rec hl hok he hq (by omega) fun j p hj => app_new hs ha (by omega) hk' hj), fun i hi hi2 => ?_⟩
  rw [hold i hi2 (.inr hi)]
  exact h.rest i (by omega) hi2
theorem zero_head : ¬ headP (List.replicate 256 0) := fun h => by
  have := h.1.2
  simp at this
theorem LogInv.new {n : Nat} {s : Sup} : LogInv (newD n) s [] s.head s.seq 0 := ⟨.nil _ _ _, fun i _ _ h => zero_head h⟩
end Go.Proofs.YtanejicgmgpjcaaGreatDoor
