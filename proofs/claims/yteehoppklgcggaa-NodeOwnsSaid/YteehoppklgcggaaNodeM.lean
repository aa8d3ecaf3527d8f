/-
  What the functions of package node compute, on lists. No condition.
-/
import Derived.Test.YteehoppklgcggaaCoreE
namespace Go.Proofs.Yteehoppklgcggaa
def fitsB (k v : Int) : Bool := decide (0 ≤ k ∧ k < 1048576 ∧ 1 ≤ v ∧ v < 1024)
/-- how many, from the first on, meet p -/
def pre (p : Int → Bool) : List Int → Nat
  | [] => 0
  | x :: l => if p x then pre p l + 1 else 0
theorem pre_eq (p : Int → Bool) (l : List Int) (n : Nat) (hn : n ≤ l.length) (h : ∀ (j : Nat) (x : Int), j < n → l[j]? = some x → p x = true) (h' : ∀ x, l[n]? = some x → p x = false) : pre p l = n := by
  induction l generalizing n with
  | nil => simp at hn; simp [pre, hn]
  | cons x l ih =>
    cases n with
    | zero => have := h' x (by simp); simp [pre, this]
    | succ n =>
      have h0 := h 0 x (by omega) (by simp)
      simp only [pre, h0, if_true]
      rw [ih n (by simpa using hn) (fun j y hj hy => h (j+1) y (by omega) (by simpa using hy)) (fun y hy => h' y (by simpa using hy))]
def findN (l : List Int) (k : Int) : Nat := pre (fun x => decide (x < k)) l
theorem findN_eq (l : List Int) (k : Int) (n : Nat) (hn : n ≤ l.length) (h : ∀ (j : Nat) (x : Int), j < n → l[j]? = some x → x < k) (h' : ∀ x, l[n]? = some x → k ≤ x) : findN l k = n :=
  pre_eq _ l n hn (fun j x hj hx => decide_eq_true (h j x hj hx)) (fun x hx => decide_eq_false (by have := h' x hx; omega))
def leN (l : List Int) (k : Int) : Nat := pre (fun x => decide (x ≤ k)) l
theorem leN_eq (l : List Int) (k : Int) (n : Nat) (hn : n ≤ l.length) (h : ∀ (j : Nat) (x : Int), j < n → l[j]? = some x → x ≤ k) (h' : ∀ x, l[n]? = some x → k < x) : leN l k = n :=
  pre_eq _ l n hn (fun j x hj hx => decide_eq_true (h j x hj hx)) (fun x hx => decide_eq_false (by have := h' x hx; omega))
theorem pre_le (p : Int → Bool) (l : List Int) : pre p l ≤ l.length := by
  induction l with
  | nil => simp [pre]
  | cons x l ih => simp only [pre]; split <;> simp <;> omega
/-- The node may be. -/
def OkN (lf : Bool) (ks vs : List Int) : Prop :=
  ks.length = vs.length ∧ ks.length ≤ 8 ∧ (lf = true ∨ 0 < ks.length) ∧ (∀ (i : Nat) (x y : Int), ks[i]? = some x → vs[i]? = some y → fitsB x y = true) ∧ (∀ (i : Nat) (x y : Int), ks[i]? = some x → ks[i + 1]? = some y → x < y)
noncomputable def okB (lf : Bool) (ks vs : List Int) : Bool := @decide (OkN lf ks vs) (Classical.propDecidable _)
theorem okB_t {lf : Bool} {ks vs : List Int} (h : OkN lf ks vs) : okB lf ks vs = true := by unfold okB; exact @decide_eq_true _ (Classical.propDecidable _) h
theorem okB_f {lf : Bool} {ks vs : List Int} (h : ¬ OkN lf ks vs) : okB lf ks vs = false := by unfold okB; exact @decide_eq_false _ (Classical.propDecidable _) h
theorem okB_ok {lf : Bool} {ks vs : List Int} (h : okB lf ks vs = true) : OkN lf ks vs := by unfold okB at h; exact @of_decide_eq_true _ (Classical.propDecidable _) h
theorem pre_lt (p : Int → Bool) (l : List Int) (j : Nat) (x : Int) (h : j < pre p l) (hx : l[j]? = some x) : p x = true := by
  induction l generalizing j with
  | nil => simp at hx
  | cons y l ih =>
    simp only [pre] at h
    split at h
    · cases j with
      | zero => simp at hx; subst hx; assumption
      | succ j => exact ih j (by omega) (by simpa using hx)
    · omega
theorem pre_at (p : Int → Bool) (l : List Int) (x : Int) (hx : l[pre p l]? = some x) : p x = false := by
  induction l with
  | nil => simp at hx
  | cons y l ih =>
    simp only [pre] at hx
    split at hx
    · exact ih (by simpa using hx)
    · simp at hx; subst hx; rename_i h; simpa using h
theorem up_lt {l : List Int} (up : ∀ (i : Nat) (x y : Int), l[i]? = some x → l[i + 1]? = some y → x < y) (i j : Nat) (h : i < j) (x y : Int) (hx : l[i]? = some x) (hy : l[j]? = some y) : x < y := by
  induction j generalizing y with
  | zero => omega
  | succ j ih =>
    rcases Nat.lt_or_ge i j with h1 | h1
    · obtain ⟨z, hz⟩ : ∃ z, l[j]? = some z := ⟨_, List.getElem?_eq_getElem (by have := (List.getElem?_eq_some_iff.1 hy).1; omega)⟩
      have := ih h1 z hz; have := up j z y hz hy; omega
    · obtain rfl : i = j := by omega
      exact up i x y hx hy
theorem leN_le (l : List Int) (k : Int) : leN l k ≤ l.length := pre_le _ _
theorem leN_lt (l : List Int) (k : Int) (j : Nat) (x : Int) (h : j < leN l k) (hx : l[j]? = some x) : x ≤ k := by simpa using pre_lt _ l j x h hx
theorem leN_ge (l : List Int) (k : Int) (up : ∀ (i : Nat) (x y : Int), l[i]? = some x → l[i + 1]? = some y → x < y) (j : Nat) (x : Int) (h : leN l k ≤ j) (hx : l[j]? = some x) : k < x := by
  obtain ⟨z, hz⟩ : ∃ z, l[leN l k]? = some z := ⟨_, List.getElem?_eq_getElem (by have := (List.getElem?_eq_some_iff.1 hx).1; omega)⟩
  have h1 := pre_at _ l z hz
  simp at h1
  rcases Nat.lt_or_ge (leN l k) j with h2 | h2
  · have := up_lt up _ _ h2 z x hz hx; omega
  · obtain rfl : j = leN l k := by omega
    rw [hz] at hx; cases hx; omega
theorem findN_lt (l : List Int) (k : Int) (j : Nat) (x : Int) (h : j < findN l k) (hx : l[j]? = some x) : x < k := by simpa using pre_lt _ l j x h hx
theorem leN_findN (l : List Int) (k : Int) (up : ∀ (i : Nat) (x y : Int), l[i]? = some x → l[i + 1]? = some y → x < y) (h : l[findN l k]? = some k) : leN l k = findN l k + 1 := by
  refine leN_eq l k _ (by have := (List.getElem?_eq_some_iff.1 h).1; omega) (fun j x hj hx => ?_) (fun y hy => up _ _ _ h hy)
  rcases Nat.lt_or_ge j (findN l k) with h1 | h1
  · have := findN_lt l k j x h1 hx; omega
  · obtain rfl : j = findN l k := by omega
    rw [hx] at h; cases h; omega
/-- the number of an error -/
def errN (b : Bool) : Int := if b then 0 else 22
theorem findN_le (l : List Int) (k : Int) : findN l k ≤ l.length := pre_le _ _
theorem errN_ne (b : Bool) : (errN b ≠ 0) ↔ b = false := by cases b <;> simp [errN]
theorem ok_of {b : Bool} (h : ¬ errN b ≠ 0) : b = true := by cases b <;> simp [errN] at h ⊢
theorem no_of {b : Bool} (h : errN b ≠ 0) : b = false := (errN_ne b).1 h
noncomputable def putN (lf : Bool) (ks vs : List Int) (key val : Int) : Bool × List Int × List Int × Int :=
  if okB lf ks vs = true then
    if fitsB key val = true then
      if ks[findN ks key]? = some key then (lf, ks, vs.set (findN ks key) val, 0)
      else if ks.length < 8 then (lf, ks.take (findN ks key) ++ key :: ks.drop (findN ks key), vs.take (findN ks key) ++ val :: vs.drop (findN ks key), 0)
      else (false, [], [], 15)
    else (false, [], [], 1)
  else (false, [], [], 22)
theorem ok_nil : okB true [] [] = true := okB_t ⟨rfl, by simp, .inl rfl, fun i x y h => by simp at h, fun i x y h => by simp at h⟩
theorem ok_none : okB false [] [] = false := okB_f fun h => by rcases h.2.2.1 with h | h <;> simp at h
theorem ok_one : okB true [5] [9] = true := okB_t ⟨rfl, by simp, .inl rfl, fun i x y h h' => by
  match i, h, h' with
  | 0, h, h' => simp at h h'; subst h; subst h'; rfl
  | i + 1, h, h' => simp at h, fun i x y h h' => by simp at h'⟩
theorem put_one : putN true [] [] 5 9 = (true, [5], [9], 0) := by
  have e : fitsB 5 9 = true := rfl
  simp [putN, ok_nil, e, findN, pre]
theorem td (l : List Int) (n k : Nat) (h : l.length ≤ k) : (l.drop n).take (k - n) = l.drop n := List.take_of_length_le (by simp; omega)
theorem set_split (l : List Int) (n : Nat) (v : Int) (h : n < l.length) : l.set n v = l.take n ++ v :: l.drop (n + 1) := by
  rw [List.set_eq_take_append_cons_drop, if_pos h]
theorem get_split (l : List Int) (n : Nat) (v : Int) (h : l[n]? = some v) : l = l.take n ++ v :: l.drop (n + 1) := by
  obtain ⟨hl, rfl⟩ := List.getElem?_eq_some_iff.1 h
  simp
noncomputable def dropN (lf : Bool) (ks vs : List Int) (p : Int) : Bool × List Int × List Int × Int :=
  if okB lf ks vs = true then
    if 0 ≤ p ∧ p < (ks.length : Int) then
      if okB lf (ks.eraseIdx p.toNat) (vs.eraseIdx p.toNat) = true then (lf, ks.eraseIdx p.toNat, vs.eraseIdx p.toNat, 0) else (false, [], [], 22)
    else (false, [], [], 1)
  else (false, [], [], 22)
theorem same_all (l m : List Int) (k : Nat) (hl : l.length = m.length) (hk : l.length ≤ k) (h : ∀ (j : Nat) (x y : Int), j < k → l[j]? = some x → m[j]? = some y → x = y) : l = m := by
  refine List.ext_getElem hl fun j h1 h2 => ?_
  exact h j _ _ (by omega) (List.getElem?_eq_getElem h1) (List.getElem?_eq_getElem h2)
theorem erase_next (l : List Int) (k n : Nat) (x : Int) (hx : l[k]? = some x) (h : k ≠ n) : ((l.take (k + 1)).eraseIdx n) = ((l.take k).eraseIdx n) ++ [x] := by
  have hl := (List.getElem?_eq_some_iff.1 hx).1
  rw [List.take_add_one, hx]
  rcases Nat.lt_or_ge n k with h1 | h1
  · rw [List.eraseIdx_append_of_lt_length (by simp; omega)]; rfl
  · rw [List.eraseIdx_append_of_length_le (by simp; omega)]
    rw [List.eraseIdx_of_length_le (l := l.take k) (by simp; omega)]
    have : n - (l.take k).length = n - k := by simp; omega
    rw [this, List.eraseIdx_of_length_le (by simp; omega)]; rfl
theorem erase_here (l : List Int) (k : Nat) (x : Int) (hx : l[k]? = some x) : ((l.take (k + 1)).eraseIdx k) = ((l.take k).eraseIdx k) := by
  have hl := (List.getElem?_eq_some_iff.1 hx).1
  rw [List.take_add_one, hx, List.eraseIdx_append_of_length_le (by simp [Nat.min_le_left])]
  have : k - (l.take k).length = 0 := by simp; omega
  rw [this, List.eraseIdx_of_length_le (l := l.take k) (by simp [Nat.min_le_left])]; simp
theorem erase_len (l : List Int) (k n : Nat) : ((l.take k).eraseIdx n).length ≤ l.length := Nat.le_trans (List.length_eraseIdx_le _ _) (by simp [Nat.min_le_right])
theorem erase_cut (l : List Int) (n : Nat) : (l.drop 0).take (n - 0) ++ (l.drop (n + 1)).take (l.length - (n + 1)) = l.eraseIdx n := by
  rw [List.eraseIdx_eq_take_drop_succ]
  simp [List.take_of_length_le (show (l.drop (n + 1)).length ≤ l.length - (n + 1) by simp)]
theorem erase_cut2 (l : List Int) (n m : Nat) (h : m = l.length) : (l.drop 0).take (n - 0) ++ (l.drop (n + 1)).take (m - (n + 1)) = l.eraseIdx n := by subst h; exact erase_cut l n
abbrev Trip := Bool × List Int × List Int
def nilT : Trip := (false, [], [])
theorem drop_cut (l : List Int) (n m : Nat) (h : m = l.length) : (l.drop n).take (m - n) = l.drop n := by subst h; exact List.take_of_length_le (by simp)
theorem take_cut (l : List Int) (n : Nat) : (l.drop 0).take (n - 0) = l.take n := by simp
noncomputable def splitN (lf : Bool) (ks vs : List Int) : Trip × Trip × Int :=
  if okB lf ks vs = true ∧ 2 ≤ ks.length then ((lf, ks.take ((ks.length + 1) / 2), vs.take ((ks.length + 1) / 2)), (lf, ks.drop ((ks.length + 1) / 2), vs.drop ((ks.length + 1) / 2)), 0) else (nilT, nilT, 22)
/-- two nodes that may stand beside one another -/
def BesP (lf : Bool) (ks vs : List Int) (lf2 : Bool) (ks2 vs2 : List Int) : Prop :=
  okB lf ks vs = true ∧ okB lf2 ks2 vs2 = true ∧ lf = lf2 ∧ ∀ x y, ks[ks.length - 1]? = some x → ks2[0]? = some y → x < y
noncomputable def besB (lf : Bool) (ks vs : List Int) (lf2 : Bool) (ks2 vs2 : List Int) : Bool := @decide (BesP lf ks vs lf2 ks2 vs2) (Classical.propDecidable _)
theorem bes_t {lf lf2 : Bool} {ks vs ks2 vs2 : List Int} (h : BesP lf ks vs lf2 ks2 vs2) : besB lf ks vs lf2 ks2 vs2 = true := by unfold besB; exact @decide_eq_true _ (Classical.propDecidable _) h
theorem bes_f {lf lf2 : Bool} {ks vs ks2 vs2 : List Int} (h : ¬ BesP lf ks vs lf2 ks2 vs2) : besB lf ks vs lf2 ks2 vs2 = false := by unfold besB; exact @decide_eq_false _ (Classical.propDecidable _) h
theorem bes_ok {lf lf2 : Bool} {ks vs ks2 vs2 : List Int} (h : besB lf ks vs lf2 ks2 vs2 = true) : BesP lf ks vs lf2 ks2 vs2 := by unfold besB at h; exact @of_decide_eq_true _ (Classical.propDecidable _) h
noncomputable def joinN (lf : Bool) (ks vs : List Int) (lf2 : Bool) (ks2 vs2 : List Int) : Bool × List Int × List Int × Int :=
  if besB lf ks vs lf2 ks2 vs2 = true then if ks.length + ks2.length ≤ 8 then (lf, ks ++ ks2, vs ++ vs2, 0) else (false, [], [], 15) else (false, [], [], 22)
noncomputable def shareN (lf : Bool) (ks vs : List Int) (lf2 : Bool) (ks2 vs2 : List Int) : Trip × Trip × Int :=
  if besB lf ks vs lf2 ks2 vs2 = true ∧ 2 ≤ ks.length + ks2.length then ((lf, (ks ++ ks2).take (((ks ++ ks2).length + 1) / 2), (vs ++ vs2).take (((ks ++ ks2).length + 1) / 2)), (lf, (ks ++ ks2).drop (((ks ++ ks2).length + 1) / 2), (vs ++ vs2).drop (((ks ++ ks2).length + 1) / 2)), 0) else (nilT, nilT, 22)
noncomputable def bothT (lf : Bool) (ks vs : List Int) (lf2 : Bool) (ks2 vs2 : List Int) : Trip := if besB lf ks vs lf2 ks2 vs2 = true then (lf, ks ++ ks2, vs ++ vs2) else nilT
def Ends (ks ks2 : List Int) : Prop := ∀ x y, ks[ks.length - 1]? = some x → ks2[0]? = some y → x < y
theorem ends_last (ks ks2 : List Int) (k : Nat) (hk : 0 < k) (hl : k ≤ ks2.length) : (ks ++ ks2.take k)[(ks ++ ks2.take k).length - 1]? = ks2[k - 1]? := by
  rw [List.getElem?_append_right (by simp; omega), List.getElem?_take, if_pos (by simp; omega)]
  congr 1; simp; omega
theorem ends_no {ks ks2 : List Int} {k : Nat} {x y : Int} (up : ∀ (i : Nat) (x y : Int), ks2[i]? = some x → ks2[i + 1]? = some y → x < y)
    (hx : (ks ++ ks2.take k)[(ks ++ ks2.take k).length - 1]? = some x) (hy : ks2[k]? = some y) (h : y ≤ x) : ¬ Ends ks ks2 := fun he => by
  have hl := (List.getElem?_eq_some_iff.1 hy).1
  rcases Nat.eq_zero_or_pos k with h0 | h0
  · subst h0
    have := he x y (by simpa using hx) hy
    omega
  · rw [ends_last _ _ _ h0 (by omega)] at hx
    have := up (k - 1) x y hx (by rw [show k - 1 + 1 = k by omega]; exact hy)
    omega
theorem ends_step {ks ks2 : List Int} {k : Nat} {x y : Int} (h0 : 0 < k → Ends ks ks2) (hx : (ks ++ ks2.take k)[(ks ++ ks2.take k).length - 1]? = some x) (hy : ks2[k]? = some y) (h : x < y) : Ends ks ks2 := by
  rcases Nat.eq_zero_or_pos k with e | e
  · subst e
    intro p q hp hq
    rw [hy] at hq; cases hq
    rw [show ks ++ ks2.take 0 = ks by simp] at hx
    rw [hx] at hp; cases hp; exact h
  · exact h0 e
theorem ends_end {ks ks2 : List Int} {k : Nat} (hk : ks2.length ≤ k) (h : 0 < k → Ends ks ks2) : Ends ks ks2 := fun x y hx hy => by
  have := (List.getElem?_eq_some_iff.1 hy).1
  exact h (by omega) x y hx hy
theorem ends_nil {ks ks2 l : List Int} (h : ¬ 0 < ((ks ++ l).length : Int)) : Ends ks ks2 := fun x y hx _ => by
  have := (List.getElem?_eq_some_iff.1 hx).1
  simp at h; omega
end Go.Proofs.Yteehoppklgcggaa
