/-
  Plain laws of nodes, on lists: what is put is found, what is dropped is not. No condition.
-/
import Derived.Test.YteehoppklgcggaaNodeM
namespace Go.Proofs.Yteehoppklgcggaa
abbrev Up (l : List Int) : Prop := ∀ (i : Nat) (x y : Int), l[i]? = some x → l[i + 1]? = some y → x < y
theorem up_pw {l : List Int} (h : Up l) : l.Pairwise (· < ·) := by
  rw [List.pairwise_iff_getElem]
  intro i j hi hj hij
  exact up_lt h i j hij _ _ (List.getElem?_eq_getElem hi) (List.getElem?_eq_getElem hj)
theorem pw_up {l : List Int} (h : l.Pairwise (· < ·)) : Up l := fun i x y hx hy => by
  obtain ⟨h1, rfl⟩ := List.getElem?_eq_some_iff.1 hx
  obtain ⟨h2, rfl⟩ := List.getElem?_eq_some_iff.1 hy
  exact (List.pairwise_iff_getElem.1 h) i (i + 1) h1 h2 (by omega)
theorem findN_at {l : List Int} (h : Up l) {i : Nat} {x : Int} (hx : l[i]? = some x) : findN l x = i :=
  findN_eq l x i (by have := (List.getElem?_eq_some_iff.1 hx).1; omega) (fun j y hj hy => up_lt h j i hj y x hy hx) (fun y hy => by rw [hx] at hy; cases hy; omega)
theorem findN_ge (l : List Int) (k x : Int) (hx : l[findN l k]? = some x) : k ≤ x := by have := pre_at _ l x hx; simpa using this

theorem ins_get (l : List Int) (f : Nat) (x : Int) (hf : f ≤ l.length) (j : Nat) : (l.take f ++ x :: l.drop f)[j]? = if j < f then l[j]? else if j = f then some x else l[j - 1]? := by
  have ht : (l.take f).length = f := by simp; omega
  by_cases h : j < f
  · rw [if_pos h, List.getElem?_append_left (by omega), List.getElem?_take, if_pos h]
  · rw [if_neg h, List.getElem?_append_right (by omega), ht]
    by_cases h2 : j = f
    · subst h2; simp
    · rw [if_neg h2, show j - f = (j - f - 1) + 1 by omega, List.getElem?_cons_succ, List.getElem?_drop, show f + (j - f - 1) = j - 1 by omega]

theorem up_ins {l : List Int} (h : Up l) (k : Int) (hn : l[findN l k]? ≠ some k) : Up (l.take (findN l k) ++ k :: l.drop (findN l k)) := fun i x y hx hy => by
  have hf := findN_le l k
  rw [ins_get _ _ _ hf] at hx hy
  split at hx <;> split at hy
  · exact h i x y hx hy
  · have e : i + 1 = findN l k := by omega
    rw [if_pos e] at hy; cases hy
    exact findN_lt l k i x (by omega) hx
  · omega
  · split at hx
    · cases hx
      rw [if_neg (by omega)] at hy
      rename_i e
      rw [show i + 1 - 1 = findN l k by omega] at hy
      have := findN_ge l k y hy
      have : y ≠ k := fun e2 => hn (by rw [hy, e2])
      omega
    · rw [if_neg (by omega)] at hy
      exact h (i - 1) x y hx (by rw [show i - 1 + 1 = i + 1 - 1 by omega]; exact hy)

/-- what 'put' answers without an error -/
structure PutOk (lf : Bool) (ks vs : List Int) (key val : Int) (L : Bool) (K V : List Int) : Prop where
  ok0 : okB lf ks vs = true
  leaf : L = lf
  ok : OkN lf K V
  hkey : K[findN K key]? = some key
  hval : V[findN K key]? = some val
  rest : ∀ (i : Nat) (x y : Int), ks[i]? = some x → vs[i]? = some y → K[findN K x]? = some x ∧ (x ≠ key → V[findN K x]? = some y)

theorem put_err (lf : Bool) (ks vs : List Int) (key val : Int) (h : (putN lf ks vs key val).2.2.2 ≠ 0) : (putN lf ks vs key val).2.1 = [] := by
  by_cases h1 : okB lf ks vs = true
  case neg => rw [putN, if_neg h1]
  by_cases h2 : fitsB key val = true
  case neg => rw [putN, if_pos h1, if_neg h2]
  by_cases h3 : ks[findN ks key]? = some key
  case pos => rw [putN, if_pos h1, if_pos h2, if_pos h3] at h; simp at h
  by_cases h4 : ks.length < 8
  case pos => rw [putN, if_pos h1, if_pos h2, if_neg h3, if_pos h4] at h; simp at h
  rw [putN, if_pos h1, if_pos h2, if_neg h3, if_neg h4]

theorem put_ok (lf : Bool) (ks vs : List Int) (key val : Int) (h : (putN lf ks vs key val).2.2.2 = 0) : PutOk lf ks vs key val (putN lf ks vs key val).1 (putN lf ks vs key val).2.1 (putN lf ks vs key val).2.2.1 := by
  by_cases h1 : okB lf ks vs = true
  case neg => rw [putN, if_neg h1] at h; simp at h
  by_cases h2 : fitsB key val = true
  case neg => rw [putN, if_pos h1, if_neg h2] at h; simp at h
  obtain ⟨p1, p2, p3, p4, p5⟩ := okB_ok h1
  have hf := findN_le ks key
  by_cases h3 : ks[findN ks key]? = some key
  · have e : putN lf ks vs key val = (lf, ks, vs.set (findN ks key) val, 0) := by rw [putN, if_pos h1, if_pos h2, if_pos h3]
    rw [e]
    have hl := (List.getElem?_eq_some_iff.1 h3).1
    refine ⟨h1, rfl, ⟨by simpa using p1, p2, p3, fun i x y hx hy => ?_, p5⟩, h3, by dsimp only; rw [List.getElem?_set, if_pos rfl, if_pos (by omega)], fun i x y hx hy => ?_⟩
    · rw [List.getElem?_set] at hy
      split at hy
      · rename_i e1; subst e1; rw [h3] at hx; cases hx
        rw [if_pos (by omega)] at hy; cases hy; exact h2
      · exact p4 i x y hx hy
    · have ei := findN_at p5 hx
      rw [ei]
      refine ⟨hx, fun hne => ?_⟩
      rw [List.getElem?_set, if_neg (fun e1 => hne (by rw [← e1] at hx; rw [h3] at hx; cases hx; rfl))]
      exact hy
  by_cases h4 : ks.length < 8
  case neg => rw [putN, if_pos h1, if_pos h2, if_neg h3, if_neg h4] at h; simp at h
  have e : putN lf ks vs key val = (lf, ks.take (findN ks key) ++ key :: ks.drop (findN ks key), vs.take (findN ks key) ++ val :: vs.drop (findN ks key), 0) := by rw [putN, if_pos h1, if_pos h2, if_neg h3, if_pos h4]
  rw [e]
  have up := up_ins p5 key h3
  have hk : (ks.take (findN ks key) ++ key :: ks.drop (findN ks key))[findN ks key]? = some key := by rw [ins_get _ _ _ hf]; simp
  have ek := findN_at up hk
  refine ⟨h1, rfl, ⟨by simp; omega, by simp; omega, .inr (by simp; omega), fun i x y hx hy => ?_, up⟩, by dsimp only; rw [ek]; exact hk, by dsimp only; rw [ek, ins_get _ _ _ (by omega)]; simp, fun i x y hx hy => ?_⟩
  · rw [ins_get _ _ _ hf] at hx
    rw [ins_get _ _ _ (by omega)] at hy
    split at hx
    · rename_i e1; rw [if_pos e1] at hy; exact p4 i x y hx hy
    · rename_i e1
      rw [if_neg e1] at hy
      split at hx
      · rename_i e2; rw [if_pos e2] at hy; cases hx; cases hy; exact h2
      · rename_i e2; rw [if_neg e2] at hy; exact p4 _ x y hx hy
  · rcases Nat.lt_or_ge i (findN ks key) with hi | hi
    · have hx2 : (ks.take (findN ks key) ++ key :: ks.drop (findN ks key))[i]? = some x := by rw [ins_get _ _ _ hf, if_pos hi]; exact hx
      dsimp only
      rw [findN_at up hx2]
      exact ⟨hx2, fun _ => by rw [ins_get _ _ _ (by omega), if_pos hi]; exact hy⟩
    · have hx2 : (ks.take (findN ks key) ++ key :: ks.drop (findN ks key))[i + 1]? = some x := by rw [ins_get _ _ _ hf, if_neg (by omega), if_neg (by omega)]; exact hx
      dsimp only
      rw [findN_at up hx2]
      exact ⟨hx2, fun _ => by rw [ins_get _ _ _ (by omega), if_neg (by omega), if_neg (by omega)]; exact hy⟩

theorem ok_erase {lf : Bool} {ks vs : List Int} (h : OkN lf ks vs) (n : Nat) (hn : n < ks.length) (h2 : lf = true ∨ 1 < ks.length) : OkN lf (ks.eraseIdx n) (vs.eraseIdx n) := by
  obtain ⟨p1, p2, p3, p4, p5⟩ := h
  refine ⟨by rw [List.length_eraseIdx_of_lt hn, List.length_eraseIdx_of_lt (by omega)]; omega, by rw [List.length_eraseIdx_of_lt hn]; omega, by rw [List.length_eraseIdx_of_lt hn]; exact h2.imp id fun _ => by omega, fun i x y hx hy => ?_, ?_⟩
  · rw [List.getElem?_eraseIdx] at hx hy
    split at hx
    · rename_i e; rw [if_pos e] at hy; exact p4 _ _ _ hx hy
    · rename_i e; rw [if_neg e] at hy; exact p4 _ _ _ hx hy
  · exact pw_up ((up_pw p5).sublist (List.eraseIdx_sublist _ _))

theorem drop_err {lf : Bool} {ks vs : List Int} (h : OkN lf ks vs) (n : Nat) (hn : n < ks.length) (he : (dropN lf ks vs (n : Int)).2.2.2 ≠ 0) : lf = false ∧ ks.length = 1 := by
  by_cases h2 : lf = true ∨ 1 < ks.length
  · have := okB_t (ok_erase h n hn h2)
    simp [dropN, okB_t h, hn, this] at he
  · exact ⟨by cases lf <;> simp_all, by simp at h2; omega⟩

theorem drop_ok {lf : Bool} {ks vs : List Int} (h : OkN lf ks vs) (n : Nat) (hn : n < ks.length) (he : (dropN lf ks vs (n : Int)).2.2.2 = 0) :
    (dropN lf ks vs (n : Int)).1 = lf ∧ (dropN lf ks vs (n : Int)).2.1 = ks.eraseIdx n ∧ (dropN lf ks vs (n : Int)).2.2.1 = vs.eraseIdx n ∧ okB lf (ks.eraseIdx n) (vs.eraseIdx n) = true := by
  by_cases h2 : okB lf (ks.eraseIdx n) (vs.eraseIdx n) = true
  · simp [dropN, okB_t h, hn, h2]
  · simp [dropN, okB_t h, hn, h2] at he

theorem drop_gone {ks : List Int} (h : Up ks) (n : Nat) (x : Int) (hx : ks[n]? = some x) (i : Nat) : (ks.eraseIdx n)[i]? ≠ some x := fun hi => by
  rw [List.getElem?_eraseIdx] at hi
  split at hi
  · have := up_lt h i n (by omega) x x hi hx; omega
  · have := up_lt h n (i + 1) (by omega) x x hx hi; omega
theorem split_err (lf : Bool) (ks vs : List Int) (h : (splitN lf ks vs).2.2 ≠ 0) : (splitN lf ks vs).1.2.1 = [] ∧ (splitN lf ks vs).2.1.2.1 = [] := by
  by_cases h1 : okB lf ks vs = true ∧ 2 ≤ ks.length
  · rw [splitN, if_pos h1] at h; simp at h
  · rw [splitN, if_neg h1]; exact ⟨rfl, rfl⟩
theorem up_take {l : List Int} (h : Up l) (n : Nat) : Up (l.take n) := pw_up ((up_pw h).sublist (List.take_sublist n l))
theorem up_drop {l : List Int} (h : Up l) (n : Nat) : Up (l.drop n) := pw_up ((up_pw h).sublist (List.drop_sublist n l))
theorem ok_take {lf : Bool} {ks vs : List Int} (h : OkN lf ks vs) (n : Nat) (hn : 0 < n) (hl : 0 < ks.length) : OkN lf (ks.take n) (vs.take n) := by
  obtain ⟨p1, p2, p3, p4, p5⟩ := h
  refine ⟨by simp [p1], by simp; omega, .inr (by simp; omega), fun i x y hx hy => ?_, up_take p5 n⟩
  rw [List.getElem?_take] at hx hy
  split at hx
  · rename_i e; rw [if_pos e] at hy; exact p4 i x y hx hy
  · cases hx
theorem ok_drop {lf : Bool} {ks vs : List Int} (h : OkN lf ks vs) (n : Nat) (hn : n < ks.length) : OkN lf (ks.drop n) (vs.drop n) := by
  obtain ⟨p1, p2, p3, p4, p5⟩ := h
  refine ⟨by simp [p1], by simp; omega, .inr (by simp; omega), fun i x y hx hy => ?_, up_drop p5 n⟩
  rw [List.getElem?_drop] at hx hy
  exact p4 _ x y hx hy
theorem split_ok (lf : Bool) (ks vs : List Int) (h : (splitN lf ks vs).2.2 = 0) :
    joinN (splitN lf ks vs).1.1 (splitN lf ks vs).1.2.1 (splitN lf ks vs).1.2.2 (splitN lf ks vs).2.1.1 (splitN lf ks vs).2.1.2.1 (splitN lf ks vs).2.1.2.2 = (lf, ks, vs, 0) ∧
    ∃ L3 K3 V3 L4 K4 V4, shareN (splitN lf ks vs).1.1 (splitN lf ks vs).1.2.1 (splitN lf ks vs).1.2.2 (splitN lf ks vs).2.1.1 (splitN lf ks vs).2.1.2.1 (splitN lf ks vs).2.1.2.2 = ((L3, K3, V3), (L4, K4, V4), 0) ∧ K3.length + K4.length ≤ 8 ∧ K4.length ≤ K3.length ∧ K3.length ≤ K4.length + 1 := by
  by_cases h1 : okB lf ks vs = true ∧ 2 ≤ ks.length
  case neg => rw [splitN, if_neg h1] at h; simp at h
  obtain ⟨h1, h2⟩ := h1
  have hok := okB_ok h1
  obtain ⟨p1, p2, p3, p4, p5⟩ := hok
  rw [splitN, if_pos ⟨h1, h2⟩]
  dsimp only
  have hb : besB lf (ks.take ((ks.length + 1) / 2)) (vs.take ((ks.length + 1) / 2)) lf (ks.drop ((ks.length + 1) / 2)) (vs.drop ((ks.length + 1) / 2)) = true := by
    refine bes_t ⟨okB_t (ok_take (okB_ok h1) _ (by omega) (by omega)), okB_t (ok_drop (okB_ok h1) _ (by omega)), rfl, fun x y hx hy => ?_⟩
    rw [List.getElem?_take] at hx
    rw [List.getElem?_drop] at hy
    split at hx
    · exact up_lt p5 _ _ (by omega) x y hx hy
    · cases hx
  have e1 : ks.take ((ks.length + 1) / 2) ++ ks.drop ((ks.length + 1) / 2) = ks := List.take_append_drop _ _
  have e2 : vs.take ((ks.length + 1) / 2) ++ vs.drop ((ks.length + 1) / 2) = vs := List.take_append_drop _ _
  refine ⟨by rw [joinN, if_pos hb, if_pos (by simp; omega), e1, e2], ?_⟩
  rw [shareN, if_pos ⟨hb, by simp; omega⟩, e1, e2]
  exact ⟨_, _, _, _, _, _, rfl, by simp; omega, by simp; omega, by simp; omega⟩
end Go.Proofs.Yteehoppklgcggaa
