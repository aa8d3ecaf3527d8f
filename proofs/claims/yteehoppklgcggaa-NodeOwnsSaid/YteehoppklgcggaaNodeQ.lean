/-
  Eight rows of the call's own, pairwise apart: what a caller may do with what is answered. No condition.
-/
import Derived.Test.YteehoppklgcggaaNodeL
import Derived.Test.YteehoppklgcggaaNodeP
set_option maxRecDepth 100000
namespace Go.Proofs.Yteehoppklgcggaa
open Go.RowKit
theorem put_len (lf : Bool) (ks vs : List Int) (key val : Int) : (putN lf ks vs key val).2.1.length ≤ 8 ∧ (putN lf ks vs key val).2.2.1.length ≤ 8 := by
  by_cases h : (putN lf ks vs key val).2.2.2 = 0
  · obtain ⟨p1, p2, -⟩ := (put_ok lf ks vs key val h).ok
    exact ⟨p2, by omega⟩
  · refine ⟨by rw [put_err _ _ _ _ _ h]; simp, ?_⟩
    by_cases h1 : okB lf ks vs = true
    case neg => rw [putN, if_neg h1]; simp
    by_cases h2 : fitsB key val = true
    case neg => rw [putN, if_pos h1, if_neg h2]; simp
    by_cases h3 : ks[findN ks key]? = some key
    case pos => rw [putN, if_pos h1, if_pos h2, if_pos h3] at h; simp at h
    by_cases h4 : ks.length < 8
    case pos => rw [putN, if_pos h1, if_pos h2, if_neg h3, if_pos h4] at h; simp at h
    rw [putN, if_pos h1, if_pos h2, if_neg h3, if_neg h4]; simp
theorem drop_len (lf : Bool) (ks vs : List Int) (p : Int) : (dropN lf ks vs p).2.1.length ≤ 8 ∧ (dropN lf ks vs p).2.2.1.length ≤ 8 := by
  by_cases h1 : okB lf ks vs = true
  case neg => rw [dropN, if_neg h1]; simp
  obtain ⟨p1, p2, -⟩ := okB_ok h1
  by_cases h2 : 0 ≤ p ∧ p < (ks.length : Int)
  case neg => rw [dropN, if_pos h1, if_neg h2]; simp
  have a := List.length_eraseIdx_le ks p.toNat
  have b := List.length_eraseIdx_le vs p.toNat
  by_cases h3 : okB lf (ks.eraseIdx p.toNat) (vs.eraseIdx p.toNat) = true
  · rw [dropN, if_pos h1, if_pos h2, if_pos h3]; exact ⟨by dsimp only; omega, by dsimp only; omega⟩
  · rw [dropN, if_pos h1, if_pos h2, if_neg h3]; simp
theorem split_len (lf : Bool) (ks vs : List Int) : ((splitN lf ks vs).1.2.1.length ≤ 8 ∧ (splitN lf ks vs).1.2.2.length ≤ 8) ∧ ((splitN lf ks vs).2.1.2.1.length ≤ 8 ∧ (splitN lf ks vs).2.1.2.2.length ≤ 8) := by
  by_cases h1 : okB lf ks vs = true ∧ 2 ≤ ks.length
  · obtain ⟨p1, p2, -⟩ := okB_ok h1.1
    rw [splitN, if_pos h1]
    refine ⟨⟨?_, ?_⟩, ?_, ?_⟩ <;> simp <;> omega
  · rw [splitN, if_neg h1]; simp [nilT]

/-- a row of the call's own, whatever lies in it -/
def OwnA (B : Nat) (v : Value) (w : World) : Prop := ∃ xs, OwnI 3 B v xs w
theorem OwnA.ext0 {B : Nat} {v : Value} {w w' : World} (h : OwnA B v w) (x : Ext No w w') : OwnA B v w' := h.imp fun _ h => h.ext0 x
theorem OwnA.extO {B : Nat} {v u : Value} {w w' : World} (h : OwnA B u w) (x : Ext (fun i => v.ownBlock = some i) w w') (ha : Apart v u) : OwnA B u w' := h.imp fun _ h => h.extO x ha

/-- eight rows -/
structure Rows8 (B bg : Nat) (S : Nat → Value) : Prop where
  apart : ∀ j k, j < 8 → k < 8 → j ≠ k → Apart (S j) (S k)
  ne : ∀ j, j < 8 → (S j).ownBlock ≠ some bg

def From (B lo : Nat) (S : Nat → Value) (w : World) : Prop := ∀ q, lo ≤ q → q < 8 → OwnA B (S q) w
theorem From.le {B lo lo' : Nat} {S : Nat → Value} {w : World} (h : From B lo S w) (hl : lo ≤ lo') : From B lo' S w := fun q a b => h q (by omega) b
theorem From.ext0 {B lo : Nat} {S : Nat → Value} {w w' : World} (h : From B lo S w) (x : Ext No w w') : From B lo S w' := fun q a b => (h q a b).ext0 x
theorem From.put {B bg lo p : Nat} {S : Nat → Value} {w w' : World} (R : Rows8 B bg S) (h : From B lo S w) (hp : p < 8) (x : Ext (fun i => (S p).ownBlock = some i) w w') (ho : OwnA B (S p) w') : From B lo S w' := fun q a b => by
  by_cases e : q = p
  · subst e; exact ho
  · exact (h q a b).extO x (R.apart p q hp b (fun e' => e e'.symm))
/-- only rows of the call's own change, and not the one that lists them -/
def Fq (B bg : Nat) : Nat → Prop := fun k => B ≤ k ∧ k ≠ bg
theorem Ext.row {e B bg : Nat} {v : Value} {xs : List Int} {w w' : World} (x : Ext (fun i => v.ownBlock = some i) w w') (h : OwnI e B v xs w) (hn : v.ownBlock ≠ some bg) : Ext (Fq B bg) w w' :=
  x.mono fun k _ q => ⟨(Own.lt h q).1, fun e => hn (by rw [q, e])⟩
theorem OwnI.extq {e B0 B1 B bg : Nat} {v : Value} {xs ys : List Int} {wo w w' : World} (h : OwnI e B0 v xs w) (O : OwnI e B1 v ys wo) (x : Ext (Fq B bg) w w') (hw : wo.heap.size ≤ B) : OwnI e B0 v xs w' :=
  Own.ext h x fun k hk q => by have := (Own.lt O hk).2; have := q.1; omega
theorem From.grow {B lo : Nat} {S : Nat → Value} {v : Value} {w w' : World} (h : From B lo S w) (x : Ext (fun i => v.ownBlock = some i) w w') (ha : ∀ q, lo ≤ q → q < 8 → Apart v (S q)) : From B lo S w' := fun q a b => (h q a b).extO x (ha q a b)
theorem aparts_grown {B lo : Nat} {S : Nat → Value} {v v' : Value} {w : World} (y : v'.ownBlock = v.ownBlock ∨ v'.ownBlock = some w.heap.size) (ha : ∀ q, lo ≤ q → q < 8 → Apart v (S q)) (h : From B lo S w) : ∀ q, lo ≤ q → q < 8 → Apart v' (S q) := fun q a b => by
  obtain ⟨xs, hx⟩ := h q a b
  exact apart_grown y (ha q a b) hx
/-- eight rows, listed -/
theorem rows8 {B bg : Nat} {w : World} {l : List Value} (hl : l.length = 8) (hs : ∀ v ∈ l, (∃ a n c, v = .slice a n c ∧ n ≤ 8) ∧ OwnA B v w ∧ v.ownBlock ≠ some bg) (hp : l.Pairwise Apart) :
    ∃ (A : Nat → Option Addr) (N C : Nat → Nat), (∀ j, j < 8 → l[j]? = some (.slice (A j) (N j) (C j))) ∧ (∀ j, j < 8 → N j ≤ 8) ∧ From B 0 (fun j => .slice (A j) (N j) (C j)) w ∧ Rows8 B bg (fun j => .slice (A j) (N j) (C j)) := by
  have key : ∀ j, ∃ a n c, j < 8 → l[j]? = some (.slice a n c) ∧ n ≤ 8 := fun j => by
    by_cases hj : j < 8
    · obtain ⟨⟨a, n, c, e, hn⟩, -⟩ := hs (l[j]'(by omega)) (List.getElem_mem _)
      exact ⟨a, n, c, fun _ => ⟨by rw [List.getElem?_eq_getElem (by omega), e], hn⟩⟩
    · exact ⟨none, 0, 0, fun h => absurd h hj⟩
  refine ⟨fun j => (key j).choose, fun j => (key j).choose_spec.choose, fun j => (key j).choose_spec.choose_spec.choose, fun j hj => ((key j).choose_spec.choose_spec.choose_spec hj).1, fun j hj => ((key j).choose_spec.choose_spec.choose_spec hj).2, fun q _ hq => ?_, ⟨fun j k hj hk hne => ?_, fun j hj => ?_⟩⟩
  · exact (hs _ (List.mem_of_getElem? ((key q).choose_spec.choose_spec.choose_spec hq).1)).2.1
  · have a := ((key j).choose_spec.choose_spec.choose_spec hj).1
    have b := ((key k).choose_spec.choose_spec.choose_spec hk).1
    obtain ⟨h1, e1⟩ := List.getElem?_eq_some_iff.1 a
    obtain ⟨h2, e2⟩ := List.getElem?_eq_some_iff.1 b
    rw [List.pairwise_iff_getElem] at hp
    rcases Nat.lt_or_gt_of_ne hne with h | h
    · have := hp j k h1 h2 h; rw [e1, e2] at this; exact this
    · have := hp k j h2 h1 h; rw [e1, e2] at this; exact this.symm
  · exact (hs _ (List.mem_of_getElem? ((key j).choose_spec.choose_spec.choose_spec hj).1)).2.2
theorem cells8 {g : Option Addr} {w : World} {l0 l1 l2 l3 s0 s1 s2 s3 s4 s5 s6 s7 : Value} {S : Nat → Value} (hc : ∀ (j : Nat) u, [l0, s0, s1, l1, s2, s3, l2, s4, s5, l3, s6, s7][j]? = some u → At g j u w) (hl : ∀ j, j < 8 → [s0, s1, s2, s3, s4, s5, s6, s7][j]? = some (S j)) :
    ∀ i, i < 4 → At g (i * 3 + 1) (S (2 * i)) w ∧ At g (i * 3 + 2) (S (2 * i + 1)) w := fun i hi => by
  have e0 : s0 = S 0 := Option.some.inj (hl 0 (by omega)); have e1 : s1 = S 1 := Option.some.inj (hl 1 (by omega)); have e2 : s2 = S 2 := Option.some.inj (hl 2 (by omega)); have e3 : s3 = S 3 := Option.some.inj (hl 3 (by omega))
  have e4 : s4 = S 4 := Option.some.inj (hl 4 (by omega)); have e5 : s5 = S 5 := Option.some.inj (hl 5 (by omega)); have e6 : s6 = S 6 := Option.some.inj (hl 6 (by omega)); have e7 : s7 = S 7 := Option.some.inj (hl 7 (by omega))
  match i, hi with
  | 0, _ => exact ⟨e0 ▸ hc 1 _ rfl, e1 ▸ hc 2 _ rfl⟩
  | 1, _ => exact ⟨e2 ▸ hc 4 _ rfl, e3 ▸ hc 5 _ rfl⟩
  | 2, _ => exact ⟨e4 ▸ hc 7 _ rfl, e5 ▸ hc 8 _ rfl⟩
  | 3, _ => exact ⟨e6 ▸ hc 10 _ rfl, e7 ▸ hc 11 _ rfl⟩
theorem Own.pos {B : Nat} {e : TypeId} {sz : Nat} {v : Value} {n : Nat} {xs : List Value} {w : World} (h : Own B e sz v n xs w) (hn : 0 < n) : ∃ b c, v = .slice (some ⟨b, 0, none⟩) n c ∧ B ≤ b ∧ b < w.heap.size ∧ ∀ j u, xs[j]? = some u → At (some ⟨b, 0, none⟩) j u w := by
  have hr := Own.rd h
  rcases h.2 with ⟨_, h0⟩ | ⟨g, cap, cur, rfl, hb, hg, _⟩
  · omega
  · obtain ⟨ao, c, e, _, _, _, hh⟩ := hr
    cases e
    exact ⟨g, _, rfl, hb, lt_of_get hg, hh⟩
theorem eltN : Elt Try.prog 24 (.agg #[.bool false, .slice none 0 0, .slice none 0 0]) 3 56 := Elt.mk (by kernel_rfl) rfl (by omega) (by omega)
theorem tyN : Try.prog.underlying 38 = some (.slice 24) := by kernel_rfl
section
variable {o : Oper} {w : World} {n : Nat} {ds : List Deferred} {L : List (Nat × Value)}
/-- append(nil, xs...) -/
theorem g_appendNI {x y : Operand} {ao : Option Addr} {c m : Nat} {ks : List Int} (ho : o.op = .call { callee := .builtin .append, args := #[x, y], argTypes := #[22, 22] })
    (hx : ev L x = some (.slice none 0 0)) (hy : ev L y = some (.slice ao m c)) (hm : m = ks.length) (hk : RdI (.slice ao m c) ks w) (hby : ks.length * 8 ≤ 140737488355328) :
    GoesL Try.prog n ds L o w fun v' w' => ∃ g c', v' = .slice g ks.length c' ∧ OwnI 3 w.heap.size (.slice g ks.length c') ks w' ∧ Ext No w w' := by
  intro a hF
  subst hm
  obtain ⟨v', w', hrun, h2, h3⟩ := g_appendN (z := .int .i64 0) (by_ := 8) ho tyI eltI hx hy hk (oneI _) hby a hF
  obtain ⟨g, c', rfl, _⟩ := Own.form h2
  exact ⟨_, w', hrun, g, c', rfl, h2, h3⟩
end
end Go.Proofs.Yteehoppklgcggaa
