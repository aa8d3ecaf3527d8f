/-
  Walks: the keys of a map, sorted; which sectors were written. No condition.
-/
import Derived.Test.YtanejicgmgpjcaaGreatDoorLogZB
import Derived.Test.YtanejicgmgpjcaaGreatDoorLogSo
set_option maxRecDepth 100000
namespace Go.Proofs.YtanejicgmgpjcaaGreatDoor
open Go.RowKit
def stpK (l : List IE) : List IE → Value → List IE → Prop := fun s v s2 => ∃ p ∈ leftL l (s.map fun p : IE => p.2.2), v = .int .i64 p.1 ∧ s2 = s ++ [p]
def finK (l : List IE) : List IE → Prop := fun s => leftL l (s.map fun p : IE => p.2.2) = []

/-- ints that were handed out, in a slice that a variable holds -/
def kC (s : List IE) : List Value := s.map fun p => .int .i64 p.1
def vecA (b : Nat) (l s : List IE) : Asn := fun h => ((∀ p ∈ s, p ∈ l) ∧ (s.map fun p : IE => p.2.2).Nodup) ∧ ∃ v, seps [blk b [v] 34, grow 3 1 v s.length (kC s)] h
theorem Sep.vec {z w : World} {Γ : List Asn} {b : Nat} {l s : List IE} (H : Sep z (vecA b l s :: Γ) w) : ((∀ p ∈ s, p ∈ l) ∧ (s.map fun p : IE => p.2.2).Nodup) ∧ ∃ v, Sep z (YtanejicgmgpjcaaGreatDoor.blk b [v] 34 :: YtanejicgmgpjcaaGreatDoor.grow 3 1 v s.length (kC s) :: Γ) w := by
  obtain ⟨v, hp, H'⟩ := H.into (σ := Value) (p := fun _ => (∀ p ∈ s, p ∈ l) ∧ (s.map fun p : IE => p.2.2).Nodup) (As := fun v => [YtanejicgmgpjcaaGreatDoor.blk b [v] 34, YtanejicgmgpjcaaGreatDoor.grow 3 1 v s.length (kC s)]) (fun h q => by obtain ⟨q, v, hv⟩ := q; exact ⟨v, q, hv⟩)
  exact ⟨hp, v, H'⟩
theorem Sep.toVec {z w : World} {Γ : List Asn} {b : Nat} {l s : List IE} {v : Value} (H : Sep z (YtanejicgmgpjcaaGreatDoor.blk b [v] 34 :: YtanejicgmgpjcaaGreatDoor.grow 3 1 v s.length (kC s) :: Γ) w) (h1 : ∀ p ∈ s, p ∈ l) (h2 : (s.map fun p : IE => p.2.2).Nodup) : Sep z (vecA b l s :: Γ) w :=
  H.made 2 (A := vecA b l s) (fun h q => ⟨⟨h1, h2⟩, v, q⟩)
theorem kC_snoc (s : List IE) (p : IE) : kC s ++ [Value.int .i64 p.1] = kC (s ++ [p]) := by simp [kC]
theorem stamps_snoc {l s : List IE} {p : IE} (h1 : (∀ p ∈ s, p ∈ l) ∧ (s.map fun p : IE => p.2.2).Nodup) (hp : p ∈ leftL l (s.map fun p : IE => p.2.2)) : (∀ q ∈ s ++ [p], q ∈ l) ∧ ((s ++ [p]).map fun p : IE => p.2.2).Nodup := by
  obtain ⟨q1, q2⟩ := leftL_mem hp
  refine ⟨fun q hq => ?_, ?_⟩
  · rcases List.mem_append.1 hq with hq | hq
    · exact h1.1 q hq
    · simp at hq; subst hq; exact q1
  · rw [List.map_append, List.nodup_append]
    refine ⟨h1.2, by simp, fun a ha b hb => ?_⟩
    simp at hb; subst hb
    exact fun e => q2 (e ▸ ha)
theorem nodup_of_map {α β : Type} {f : α → β} {l : List α} (h : (l.map f).Nodup) : l.Nodup := (List.pairwise_map.1 h).imp fun h e => h (congrArg f e)
theorem len_sub {α : Type} : ∀ {s l : List α}, s.Nodup → (∀ p ∈ s, p ∈ l) → s.length ≤ l.length
  | [], _, _, _ => Nat.zero_le _
  | x :: s, l, hn, h => by
    obtain ⟨l1, l2, rfl⟩ := List.append_of_mem (h x (by simp))
    have hx := List.nodup_cons.1 hn
    have := len_sub (s := s) (l := l1 ++ l2) hx.2 fun p hp => by
      have := h p (by simp [hp])
      simp only [List.mem_append, List.mem_cons] at this ⊢
      rcases this with q | rfl | q
      · exact .inl q
      · exact absurd hp hx.1
      · exact .inr q
    simp only [List.length_append, List.length_cons] at this ⊢
    omega
theorem stamps_len {l s : List IE} (h : (∀ p ∈ s, p ∈ l) ∧ (s.map fun p : IE => p.2.2).Nodup) : s.length ≤ l.length := by
  have hs : s.Nodup := nodup_of_map h.2
  exact len_sub hs h.1
theorem stamps_perm {l s : List IE} (hn : (l.map fun p : IE => p.2.2).Nodup) (h : (∀ p ∈ s, p ∈ l) ∧ (s.map fun p : IE => p.2.2).Nodup) (hf : finK l s) : s.Perm l := by
  have hs : s.Nodup := nodup_of_map h.2
  have hl : l.Nodup := nodup_of_map hn
  refine (List.perm_ext_iff_of_nodup hs hl).2 fun p => ⟨h.1 p, fun hp => ?_⟩
  have : p.2.2 ∈ s.map fun p : IE => p.2.2 := by
    by_cases q : p.2.2 ∈ s.map fun p : IE => p.2.2
    · exact q
    · have : p ∈ leftL l (s.map fun p : IE => p.2.2) := by simpa [leftL] using ⟨hp, by simpa using q⟩
      rw [show leftL l (s.map fun p : IE => p.2.2) = [] from hf] at this
      cases this
  obtain ⟨q, hq, e⟩ := List.mem_map.1 this
  obtain ⟨i, hi, rfl⟩ := List.mem_iff_getElem.1 (h.1 q hq)
  obtain ⟨j, hj, rfl⟩ := List.mem_iff_getElem.1 hp
  obtain rfl := nodup_idx hn (List.getElem?_eq_getElem hi) (List.getElem?_eq_getElem hj) e
  exact hq

theorem dirty_ks {D : Dsk} {bs : List UInt8} {es : List Ent} {clk : Nat} {hq : Hp} {s : List IE} (hI : D.In bs es clk hq) (hs : s.Perm (es.map Ent.ie)) :
    ((s.map fun p : IE => p.1).mergeSort (fun x y => decide (x ≤ y))).Pairwise (· < ·) ∧ ∀ k : Int, k ∈ (s.map fun p : IE => p.1).mergeSort (fun x y => decide (x ≤ y)) ↔ 0 ≤ k ∧ k < D.n ∧ D.ver k.toNat ≠ [] := by
  have hp : ((s.map fun p : IE => p.1).mergeSort (fun x y => decide (x ≤ y))).Perm (es.map fun e : Ent => (e.key : Int)) := by
    refine (List.mergeSort_perm _ _).trans ?_
    have := hs.map (fun p : IE => p.1)
    rwa [List.map_map] at this
  have hnd : ((s.map fun p : IE => p.1).mergeSort (fun x y => decide (x ≤ y))).Nodup := by
    refine hp.symm.nodup ?_
    have h1 := List.pairwise_map.1 hI.nodup
    exact List.pairwise_map.2 (h1.imp fun h e => h (by omega))
  refine ⟨?_, fun k => ?_⟩
  · have hso : ((s.map fun p : IE => p.1).mergeSort (fun x y => decide (x ≤ y))).Pairwise (fun x y => decide (x ≤ y) = true) := List.pairwise_mergeSort (fun a b c h1 h2 => by simp at *; omega) (fun a b => by simp; omega) _
    exact (hso.and hnd).imp fun h => by have h1 := h.1; have h2 := h.2; simp at h1; omega
  · rw [hp.mem_iff, List.mem_map]
    constructor
    · rintro ⟨e, he, rfl⟩
      obtain ⟨h1, h2, h3⟩ := hI.ent e he
      refine ⟨by omega, by omega, ?_⟩
      rw [Int.toNat_natCast, ← h2]; exact h3.2.1
    · rintro ⟨h1, h2, h3⟩
      obtain ⟨e, he, hk⟩ := hI.all k.toNat (by omega) h3
      exact ⟨e, he, by omega⟩
theorem keys_it (bb m clk : Nat) (l : List IE) (hold : ∀ p ∈ l, p.2.2 < clk) (hn : (l.map fun p : IE => p.2.2).Nodup) : ItG Tryz.prog 42 [.pointer (some ⟨bb, 0, none⟩)] [blk bb [.map (some m)] 71, mapB m l clk] (stpK l) [] (finK l) := by
  intro z l_ J hY w H'
  have H : Sep z (blk bb [.map (some m)] 71 :: mapB m l clk :: J []) w := H'
  clear H'
  refine it_enter (args := [.func (.yield l_) #[] #[], .pointer (some ⟨bb, 0, none⟩)]) Tryz.func42 rfl rfl 14 Tryz.ntmps42 rfl ?_
  refine rk_seq ?_
  refine rs_region ?_
  refine s_do rfl rfl rfl (d_load rfl rfl (by kernel_rfl) (here (H.cel 0 rfl 0 rfl))) ?_
  refine s_go rfl rfl rfl (n_range 1 (e := 90) H rfl rfl (by kernel_rfl) rfl) ?_
  rintro _ w ⟨rr, rfl, H'⟩
  have H : Sep z (itB rr m clk ([]) :: blk bb [.map (some m)] 71 :: mapB m l clk :: J []) w := H'
  clear H'
  refine s_end ?_
  refine rk_block ?_
  refine rc_loop (σ := List IE) (fun s => [(0, .func (.yield l_) #[] #[]), (5, .pointer (some ⟨rr, 0, none⟩))])
    (fun s w => Sep z (itB rr m clk (s.map fun p : IE => p.2.2) :: blk bb [.map (some m)] 71 :: mapB m l clk :: J s) w ∧ (True)) (fun s => (leftL l (s.map fun p : IE => p.2.2)).length) ([])
    (fun _ hF => (hF.cons (hF.cons hF.nil 5 _ _ rfl rfl) 0 _ _ rfl rfl)) ⟨H, trivial⟩ ?_
  clear H; rintro s w ⟨H', hI⟩
  have H : Sep z (itB rr m clk (s.map fun p : IE => p.2.2) :: blk bb [.map (some m)] 71 :: mapB m l clk :: J s) w := H'
  clear H'
  refine rk_seq ?_
  refine rs_region ?_
  refine s_go rfl rfl rfl (n_next 0 2 H rfl rfl rfl rfl hold) ?_
  rintro _ w ⟨qx, rfl, hqx, H'⟩
  have H : Sep z (itB rr m clk (nxS (s.map fun p : IE => p.2.2) qx) :: blk bb [.map (some m)] 71 :: mapB m l clk :: J s) w := H'
  clear H'
  refine s_do rfl rfl rfl (d_nx0 rfl rfl) ?_
  refine s_end ?_
  refine rk_seq ?_
  refine rk_cond rfl (fun h1 => ?_) (fun h1 => ?_)
  · -- yes: qx.isSome
    obtain ⟨p1, rfl⟩ := Option.isSome_iff_exists.1 h1
    refine rk_skip ?_
    refine rk_block ?_
    refine rk_seq ?_
    refine rs_region ?_
    refine s_do rfl rfl rfl (d_entry (p := p1) rfl rfl (here ⟨H.bk 0 rfl, H.bk 2 rfl⟩) (leftL_mem hqx).1 hn) ?_
    refine s_do rfl rfl rfl (d_extract rfl rfl rfl) ?_
    refine s_do rfl rfl rfl (d_assign rfl rfl) ?_
    refine s_end ?_
    refine rk_seq ?_
    refine i_region ?_
    refine i_do rfl rfl rfl (d_move rfl rfl) ?_
    refine i_do rfl rfl rfl (d_move rfl rfl) ?_
    have H' := H.pick 3 [1, 2, 0] rfl
    have H : Sep z (blk bb [.map (some m)] 71 :: mapB m l clk :: itB rr m clk (nxS (s.map fun p : IE => p.2.2) (some p1)) :: J s) w := H'
    clear H'
    refine i_yield rfl rfl rfl rfl rfl rfl (hY s _ (s ++ [p1]) [itB rr m clk ((s.map fun p : IE => p.2.2) ++ [p1.2.2])] ⟨p1, hqx, rfl, rfl⟩ _ H) ?_
    rintro _ w ⟨rfl, H'⟩
    refine ⟨_, rfl, ?_⟩
    have H : Sep z (blk bb [.map (some m)] 71 :: mapB m l clk :: itB rr m clk (nxS (s.map fun p : IE => p.2.2) (some p1)) :: J (s ++ [p1])) w := H'
    clear H'
    refine i_do rfl rfl rfl (d_not rfl rfl) ?_
    refine i_end ?_
    refine rk_false rfl ?_
    refine rk_skip ?_
    have H' := H.pick 3 [2, 0, 1] rfl
    have H : Sep z (itB rr m clk (nxS (s.map fun p : IE => p.2.2) (some p1)) :: blk bb [.map (some m)] 71 :: mapB m l clk :: J (s ++ [p1])) w := H'
    clear H'
    intro _ hF
    refine ⟨(s ++ [p1]), (hF.cons (hF.cons hF.nil 5 _ _ rfl rfl) 0 _ _ rfl rfl), ⟨(by rw [List.map_append]; exact H), ?_⟩, ?_⟩
    · trivial
    · (have := leftL_less hqx; rwa [show (s ++ [p1]).map (fun p : IE => p.2.2) = (s.map fun p : IE => p.2.2) ++ [p1.2.2] from by simp])
  · -- no: qx.isSome
    obtain rfl : qx = none := by simpa using h1
    refine rk_exit ?_
    refine k_here ?_
    exact fun _ hF => ⟨hF.defers, s, hqx, H.perm 3 [1, 2] rfl rfl⟩

theorem appendSeq_c (bb m clk : Nat) (l : List IE) (hold : ∀ p ∈ l, p.2.2 < clk) (hn : (l.map fun p : IE => p.2.2).Nodup) (hll : l.length ≤ 1099511627776) : Cn Tryz.prog 52 [.slice none 0 0, .func (.func 42) #[] #[.pointer (some ⟨bb, 0, none⟩)]] [blk bb [.map (some m)] 71, mapB m l clk] (fun v Γ => ∃ s : List IE, s.Perm l ∧ Γ = [blk bb [.map (some m)] 71, mapB m l clk, grow 3 1 v s.length (kC s)]) := by
  intro z R w H'
  have H : Sep z (blk bb [.map (some m)] 71 :: mapB m l clk :: R) w := H'
  clear H'
  refine enterM Tryz.func52 rfl 13 Tryz.ntmps52 rfl ?_
  refine k_seq ?_
  refine s_region ?_
  refine s_go rfl rfl rfl (n_box H rfl rfl (cs := [.slice none 0 0]) rfl) ?_
  rintro _ w ⟨b1, rfl, H'⟩
  have H : Sep z (blk b1 [.slice none 0 0] 34 :: blk bb [.map (some m)] 71 :: mapB m l clk :: R) w := H'
  clear H'
  refine s_do rfl rfl rfl (d_assign rfl rfl) ?_
  refine s_end ?_
  refine k_seq ?_
  refine k_seq ?_
  refine s_region ?_
  refine s_do rfl rfl rfl (d_move rfl rfl) ?_
  refine s_end ?_
  refine k_block ?_
  have H' := H.nilg 3 1
  have H : Sep z (grow 3 1 (.slice none 0 0) 0 [] :: blk b1 [.slice none 0 0] 34 :: blk bb [.map (some m)] 71 :: mapB m l clk :: R) w := H'
  clear H'
  have H' := H.pick 4 [1, 0, 2, 3] rfl
  have H : Sep z (blk b1 [.slice none 0 0] 34 :: grow 3 1 (.slice none 0 0) 0 [] :: blk bb [.map (some m)] 71 :: mapB m l clk :: R) w := H'
  clear H'
  have H' := H.toVec (l := l) (s := []) (by simp) (by simp)
  have H : Sep z (vecA b1 l [] :: blk bb [.map (some m)] 71 :: mapB m l clk :: R) w := H'
  clear H'
  have H' := H.pick 3 [1, 2, 0] rfl
  have H : Sep z (blk bb [.map (some m)] 71 :: mapB m l clk :: vecA b1 l [] :: R) w := H'
  clear H'
  have H' := Sep.swap (As := [blk bb [.map (some m)] 71, mapB m l clk]) (Bs := (vecA b1 l [] :: R)) H; clear H
  refine k_rangeG (fun s => (vecA b1 l s :: R)) rfl (fun u w => Tryz.call42 u w) rfl (keys_it bb m clk l hold hn) H' ?_ ?_
  · -- a round
    rintro ro s v s2 ⟨p, hp, rfl, rfl⟩ w
    refine rs_region ?_
    refine s_do rfl rfl rfl (d_assign rfl rfl) ?_
    refine s_end ?_
    refine fun a hF => ⟨rfl, fun F w H' => ?_⟩
    revert a hF
    have H : Sep z (vecA b1 l s :: (R ++ F)) w := H'
    clear H'
    obtain ⟨hps, v1, H'⟩ := H.vec; clear H
    have H : Sep z (blk b1 [v1] 34 :: grow 3 1 v1 s.length (kC s) :: (R ++ F)) w := H'
    clear H'
    have sv1 := H.says 1 rfl (fun h q => q.slc)
    have hsl := stamps_len hps
    refine rk_block ?_
    refine rs_region ?_
    refine s_do rfl rfl rfl (d_load rfl rfl (by kernel_rfl) (here (H.cel 0 rfl 0 rfl))) ?_
    refine s_do rfl rfl rfl (d_move rfl rfl) ?_
    refine s_go rfl rfl rfl (n_buildSlice H rfl (by kernel_rfl) (Elt.mk (P := Tryz.prog) (e := 3) (z := .int .i64 0) (sz := 1) (by_ := 8) (by kernel_rfl) rfl (by omega) (by omega)) rfl (by decide) (by decide) (out := [.int .i64 p.1]) (by kernel_rfl)) ?_
    rintro _ w ⟨b2, rfl, H'⟩
    have H : Sep z (blk b2 [.int .i64 p.1] 3 :: blk b1 [v1] 34 :: grow 3 1 v1 s.length (kC s) :: (R ++ F)) w := H'
    clear H'
    refine s_go rfl rfl rfl (n_append 2 H rfl rfl (by kernel_rfl) (Elt.mk (P := Tryz.prog) (e := 3) (z := .int .i64 0) (sz := 1) (by_ := 8) (by kernel_rfl) rfl (by omega) (by omega)) rfl rfl (H.rd 0 rfl (fun h q => q.rd (by omega) (by omega) (by simp) rfl)) (by simp [Value.oneCell']) (by omega)) ?_
    rintro v3 w H'
    have H' : Sep z (blk b2 [.int .i64 p.1] 3 :: blk b1 [v1] 34 :: grow 3 1 v3 (s.length + 1) (kC s ++ [.int .i64 p.1]) :: (R ++ F)) w := H'
    have ev3 : (kC s ++ [.int .i64 p.1] : List Value) = kC (s ++ [p]) := kC_snoc s p
    rw [ev3] at H'
    rw [show (s.length + 1 : Nat) = (s ++ [p]).length from by simp] at H'
    have H : Sep z (blk b2 [.int .i64 p.1] 3 :: blk b1 [v1] 34 :: grow 3 1 v3 ((s ++ [p]).length) (kC (s ++ [p])) :: (R ++ F)) w := H'
    clear H'
    have sv3 := H.says 2 rfl (fun h q => q.slc)
    refine s_put rfl rfl (n_store 1 H rfl rfl rfl rfl (vs := [v3]) sv3.cells (one_cons sv3.one one_nil) (by kernel_rfl) (by simp) (out := [v3]) rfl) ?_
    rintro w H'
    have H : Sep z (blk b2 [.int .i64 p.1] 3 :: blk b1 [v3] 34 :: grow 3 1 v3 ((s ++ [p]).length) (kC (s ++ [p])) :: (R ++ F)) w := H'
    clear H'
    refine s_end ?_
    have H' := H.pick 3 [1, 2] rfl
    have H : Sep z (blk b1 [v3] 34 :: grow 3 1 v3 ((s ++ [p]).length) (kC (s ++ [p])) :: (R ++ F)) w := H'
    clear H'
    have hp2 := stamps_snoc hps hp
    exact fun _ _ => H.toVec hp2.1 hp2.2
  · -- behind it
    rintro D0 w s hfin H'
    have H : Sep z (bk D0 (.deferred (some [])) :: vecA b1 l s :: (R ++ [blk bb [.map (some m)] 71, mapB m l clk])) w := H'
    clear H'
    have H' := H.pick 2 [1, 0] rfl
    have H : Sep z (vecA b1 l s :: bk D0 (.deferred (some [])) :: (R ++ [blk bb [.map (some m)] 71, mapB m l clk])) w := H'
    clear H'
    obtain ⟨hps, v1, H'⟩ := H.vec; clear H
    have H : Sep z (blk b1 [v1] 34 :: grow 3 1 v1 s.length (kC s) :: bk D0 (.deferred (some [])) :: (R ++ [blk bb [.map (some m)] 71, mapB m l clk])) w := H'
    clear H'
    have sv1 := H.says 1 rfl (fun h q => q.slc)
    refine k_seq ?_
    refine s_region ?_
    refine s_do rfl rfl rfl (d_load rfl rfl (by kernel_rfl) (here (H.cel 0 rfl 0 rfl))) ?_
    refine s_do rfl rfl rfl (d_assign rfl rfl) ?_
    refine s_end ?_
    refine k_ret ?_
    have H' := H.pick 3 [2, 0, 1] rfl
    have H : Sep z (bk D0 (.deferred (some [])) :: blk b1 [v1] 34 :: grow 3 1 v1 s.length (kC s) :: (R ++ [blk bb [.map (some m)] 71, mapB m l clk])) w := H'
    clear H'
    refine doneM1 H (rs := [.tmp 4]) rfl [v1] (fun _ => ⟨rfl, trivial⟩) (v := v1) rfl (fun w H' => ?_)
    clear H
    have H : Sep z (blk b1 [v1] 34 :: grow 3 1 v1 s.length (kC s) :: (R ++ [blk bb [.map (some m)] 71, mapB m l clk])) w := H'
    clear H'
    have H' := Sep.swap (As := grow 3 1 v1 s.length (kC s) :: R) (Bs := [blk bb [.map (some m)] 71, mapB m l clk]) (H.pick 2 [1] rfl)
    exact ⟨[blk bb [.map (some m)] 71, mapB m l clk, grow 3 1 v1 s.length (kC s)], ⟨s, stamps_perm hn hps hfin, rfl⟩, H'⟩

theorem keys_c (m : Nat) : Cn Tryz.prog 27 [.map (some m)] [] (fun v Γ => ∃ bb, v = .func (.func 42) #[] #[.pointer (some ⟨bb, 0, none⟩)] ∧ Γ = [blk bb [.map (some m)] 71]) := by
  intro z R w H'
  have H : Sep z (R) w := H'
  clear H'
  refine enter Tryz.func27 rfl 4 Tryz.ntmps27 rfl ?_
  refine k_seq ?_
  refine s_region ?_
  refine s_go rfl rfl rfl (n_box H rfl rfl (cs := [.map (some m)]) rfl) ?_
  rintro _ w ⟨b1, rfl, H'⟩
  have H : Sep z (blk b1 [.map (some m)] 71 :: R) w := H'
  clear H'
  refine s_do rfl rfl rfl (d_assign rfl rfl) ?_
  refine s_end ?_
  refine k_seq ?_
  refine s_region ?_
  refine s_do rfl rfl rfl (d_makeFunc rfl rfl rfl) ?_
  refine s_do rfl rfl rfl (d_assign rfl rfl) ?_
  refine s_end ?_
  refine k_ret ?_
  refine doneL rfl [.func (.func 42) #[] #[.pointer (some ⟨b1, 0, none⟩)]] ⟨rfl, trivial⟩ (v := .func (.func 42) #[] #[.pointer (some ⟨b1, 0, none⟩)]) rfl ?_
  exact ⟨[blk b1 [.map (some m)] 71], ⟨b1, rfl, rfl⟩, H⟩

theorem collect_c (bb m clk : Nat) (l : List IE) (hold : ∀ p ∈ l, p.2.2 < clk) (hn : (l.map fun p : IE => p.2.2).Nodup) (hll : l.length ≤ 1099511627776) : Cn Tryz.prog 40 [.func (.func 42) #[] #[.pointer (some ⟨bb, 0, none⟩)]] [blk bb [.map (some m)] 71, mapB m l clk] (fun v Γ => ∃ s : List IE, s.Perm l ∧ Γ = [blk bb [.map (some m)] 71, mapB m l clk, grow 3 1 v s.length (kC s)]) := by
  intro z R w H'
  have H : Sep z (blk bb [.map (some m)] 71 :: mapB m l clk :: R) w := H'
  clear H'
  refine enter Tryz.func40 rfl 5 Tryz.ntmps40 rfl ?_
  refine k_seq ?_
  refine s_region ?_
  refine s_do rfl rfl rfl (d_assign rfl rfl) ?_
  refine s_end ?_
  refine k_seq ?_
  refine s_region ?_
  refine s_do rfl rfl rfl (d_move rfl rfl) ?_
  refine s_callC rfl rfl rfl rfl rfl (fun w => Tryz.call52 _ w) (appendSeq_c _ _ _ _ hold hn hll) H 2 [0, 1] rfl rfl ?_
  rintro v2 w _ ⟨s, hs, rfl⟩ H'
  have H : Sep z (blk bb [.map (some m)] 71 :: mapB m l clk :: grow 3 1 v2 s.length (kC s) :: R) w := H'
  clear H'
  have sv2 := H.says 2 rfl (fun h q => q.slc)
  refine s_do rfl rfl rfl (d_assign rfl rfl) ?_
  refine s_end ?_
  refine k_ret ?_
  refine doneL rfl [v2] ⟨rfl, trivial⟩ (v := v2) rfl ?_
  exact ⟨[blk bb [.map (some m)] 71, mapB m l clk, grow 3 1 v2 s.length (kC s)], ⟨s, hs, rfl⟩, H⟩

theorem sorted_c (bb m clk : Nat) (l : List IE) (hold : ∀ p ∈ l, p.2.2 < clk) (hn : (l.map fun p : IE => p.2.2).Nodup) (hll : l.length ≤ 1099511627776) : Cn Tryz.prog 26 [.func (.func 42) #[] #[.pointer (some ⟨bb, 0, none⟩)]] [blk bb [.map (some m)] 71, mapB m l clk] (fun v Γ => ∃ s : List IE, s.Perm l ∧ Γ = [grow 3 1 v ((s.map fun p : IE => p.1).mergeSort (fun x y => decide (x ≤ y))).length (((s.map fun p : IE => p.1).mergeSort (fun x y => decide (x ≤ y))).map (Value.int .i64)), blk bb [.map (some m)] 71, mapB m l clk]) := by
  intro z R w H'
  have H : Sep z (blk bb [.map (some m)] 71 :: mapB m l clk :: R) w := H'
  clear H'
  refine enter Tryz.func26 rfl 9 Tryz.ntmps26 rfl ?_
  refine k_seq ?_
  refine s_region ?_
  refine s_do rfl rfl rfl (d_assign rfl rfl) ?_
  refine s_end ?_
  refine k_seq ?_
  refine s_region ?_
  refine s_do rfl rfl rfl (d_move rfl rfl) ?_
  refine s_callC rfl rfl rfl rfl rfl (fun w => Tryz.call40 _ w) (collect_c _ _ _ _ hold hn hll) H 2 [0, 1] rfl rfl ?_
  rintro v2 w _ ⟨s, hs, rfl⟩ H'
  have H : Sep z (blk bb [.map (some m)] 71 :: mapB m l clk :: grow 3 1 v2 s.length (kC s) :: R) w := H'
  clear H'
  have sv2 := H.says 2 rfl (fun h q => q.slc)
  refine s_do rfl rfl rfl (d_assign rfl rfl) ?_
  refine s_end ?_
  refine k_seq ?_
  refine s_region ?_
  refine s_do rfl rfl rfl (d_move rfl rfl) ?_
  have hsl : (s.map fun p : IE => p.1).length = s.length := by simp
  have hsp := hs.length_eq
  have H' := H.mono 2 (B := grow 3 1 v2 (s.map fun p : IE => p.1).length ((s.map fun p : IE => p.1).map (Value.int .i64))) rfl (fun h q => by rw [hsl, List.map_map]; exact q)
  have H : Sep z (blk bb [.map (some m)] 71 :: mapB m l clk :: grow 3 1 v2 ((s.map fun p : IE => p.1).length) ((s.map fun p : IE => p.1).map (Value.int .i64)) :: R) w := H'
  clear H'
  refine s_callC rfl rfl rfl rfl rfl (fun w => Tryz.call41 _ w) (sort_c _ _ (by omega)) H 3 [2, 0, 1] rfl rfl ?_
  rintro _ w _ ⟨rfl, ys, rfl, rfl⟩ H'
  have H : Sep z (grow 3 1 v2 (((s.map fun p : IE => p.1).mergeSort (fun x y => decide (x ≤ y))).length) (((s.map fun p : IE => p.1).mergeSort (fun x y => decide (x ≤ y))).map (Value.int .i64)) :: blk bb [.map (some m)] 71 :: mapB m l clk :: R) w := H'
  clear H'
  refine s_end ?_
  refine k_seq ?_
  refine s_region ?_
  refine s_do rfl rfl rfl (d_move rfl rfl) ?_
  refine s_do rfl rfl rfl (d_assign rfl rfl) ?_
  refine s_end ?_
  refine k_ret ?_
  refine doneL rfl [v2] ⟨rfl, trivial⟩ (v := v2) rfl ?_
  exact ⟨[grow 3 1 v2 (((s.map fun p : IE => p.1).mergeSort (fun x y => decide (x ≤ y))).length) (((s.map fun p : IE => p.1).mergeSort (fun x y => decide (x ≤ y))).map (Value.int .i64)), blk bb [.map (some m)] 71, mapB m l clk], ⟨s, hs, rfl⟩, H⟩

theorem dirty_c (pd : Nat) (D : Dsk) : Cn Tryz.prog 13 [.pointer (some ⟨pd, 0, none⟩)] [diskA pd D] (fun v Γ => ∃ ks : List Int, (ks.Pairwise (· < ·) ∧ ∀ k : Int, k ∈ ks ↔ 0 ≤ k ∧ k < D.n ∧ D.ver k.toNat ≠ []) ∧ Γ = [grow 3 1 v ks.length (ks.map (Value.int .i64)), diskA pd D]) := by
  intro z R w H'
  have H : Sep z (diskA pd D :: R) w := H'
  clear H'
  obtain ⟨bd, m, f0, bs, es, clk, hq, hD, hIn, H'⟩ := H.disk
  clear H
  have hn1 := hD.n1; have hn2 := hD.n2; have hf1 := hD.f1; have hf2 := hD.f2; have hf3 := hD.f3; have hlf := hD.left; have hbl := hIn.len
  have H : Sep z (blk pd [.slice (some ⟨bd, 0, none⟩) (D.n * 256) (D.n * 256), .map (some m), .int .i64 f0, .int .i64 D.f1, .int .i64 D.f2, .int .i64 D.f3, .bool D.cut, .int .i64 D.left] 74 :: blk bd (bs.map u8) 5 :: mapB m (es.map Ent.ie) clk :: poolA hq :: seps (es.map Ent.row) :: R) w := H'
  clear H'
  refine enter Tryz.func13 rfl 9 Tryz.ntmps13 rfl ?_
  refine k_seq ?_
  refine s_region ?_
  refine s_do rfl rfl rfl (d_assign rfl rfl) ?_
  refine s_end ?_
  refine k_seq ?_
  refine s_region ?_
  refine s_do rfl rfl rfl (d_move rfl rfl) ?_
  refine s_do rfl rfl rfl (d_nilCheck rfl rfl) ?_
  refine s_do rfl rfl rfl (d_field rfl (k := 1) (r := 1) (by kernel_rfl) rfl rfl) ?_
  refine s_do rfl rfl rfl (d_load rfl rfl (by kernel_rfl) (here (H.cel 0 rfl 1 rfl))) ?_
  refine s_callC rfl rfl rfl rfl rfl (fun w => Tryz.call27 _ w) (keys_c _) H 0 [] rfl rfl ?_
  rintro _ w _ ⟨bb, rfl, rfl⟩ H'
  have H : Sep z (blk bb [.map (some m)] 71 :: blk pd [.slice (some ⟨bd, 0, none⟩) (D.n * 256) (D.n * 256), .map (some m), .int .i64 f0, .int .i64 D.f1, .int .i64 D.f2, .int .i64 D.f3, .bool D.cut, .int .i64 D.left] 74 :: blk bd (bs.map u8) 5 :: mapB m (es.map Ent.ie) clk :: poolA hq :: seps (es.map Ent.row) :: R) w := H'
  clear H'
  have hmm : ∀ f : IE → Nat, (es.map Ent.ie).map f = es.map fun e => f e.ie := fun f => by simp
  have hel : es.length ≤ D.n := by
    have := len_sub (s := es.map Ent.key) (l := List.range D.n) hIn.nodup (fun k hk => by obtain ⟨e, he, rfl⟩ := List.mem_map.1 hk; exact List.mem_range.2 (hIn.ent e he).1)
    simpa using this
  have hn2 := hD.n2
  refine s_callC rfl rfl rfl rfl rfl (fun w => Tryz.call26 _ w) (sorted_c _ _ _ _ (fun p hp => by obtain ⟨e, he, rfl⟩ := List.mem_map.1 hp; exact hIn.clk e he) (by rw [hmm]; exact hIn.born) (by simp; omega)) H 4 [0, 3, 1, 2] rfl rfl ?_
  rintro v2 w _ ⟨s, hs, rfl⟩ H'
  have H : Sep z (grow 3 1 v2 (((s.map fun p : IE => p.1).mergeSort (fun x y => decide (x ≤ y))).length) (((s.map fun p : IE => p.1).mergeSort (fun x y => decide (x ≤ y))).map (Value.int .i64)) :: blk bb [.map (some m)] 71 :: mapB m (es.map Ent.ie) clk :: blk pd [.slice (some ⟨bd, 0, none⟩) (D.n * 256) (D.n * 256), .map (some m), .int .i64 f0, .int .i64 D.f1, .int .i64 D.f2, .int .i64 D.f3, .bool D.cut, .int .i64 D.left] 74 :: blk bd (bs.map u8) 5 :: poolA hq :: seps (es.map Ent.row) :: R) w := H'
  clear H'
  refine s_do rfl rfl rfl (d_assign rfl rfl) ?_
  refine s_end ?_
  refine k_ret ?_
  refine doneL rfl [v2] ⟨rfl, trivial⟩ (v := v2) rfl ?_
  have hks := dirty_ks hIn hs
  have H' := H.pick 7 [3, 4, 2, 5, 6, 0, 1] rfl
  have H : Sep z (blk pd [.slice (some ⟨bd, 0, none⟩) (D.n * 256) (D.n * 256), .map (some m), .int .i64 f0, .int .i64 D.f1, .int .i64 D.f2, .int .i64 D.f3, .bool D.cut, .int .i64 D.left] 74 :: blk bd (bs.map u8) 5 :: mapB m (es.map Ent.ie) clk :: poolA hq :: seps (es.map Ent.row) :: grow 3 1 v2 (((s.map fun p : IE => p.1).mergeSort (fun x y => decide (x ≤ y))).length) (((s.map fun p : IE => p.1).mergeSort (fun x y => decide (x ≤ y))).map (Value.int .i64)) :: blk bb [.map (some m)] 71 :: R) w := H'
  clear H'
  have H' := Sep.toDisk (D := D) (pd := pd) (bd := bd) (m := m) (f0 := f0) (bs := bs) (es := es) (clk := clk) (hq := hq) (Γ := grow 3 1 v2 (((s.map fun p : IE => p.1).mergeSort (fun x y => decide (x ≤ y))).length) (((s.map fun p : IE => p.1).mergeSort (fun x y => decide (x ≤ y))).map (Value.int .i64)) :: blk bb [.map (some m)] 71 :: R) H hD hIn
  have H : Sep z (diskA pd D :: grow 3 1 v2 (((s.map fun p : IE => p.1).mergeSort (fun x y => decide (x ≤ y))).length) (((s.map fun p : IE => p.1).mergeSort (fun x y => decide (x ≤ y))).map (Value.int .i64)) :: blk bb [.map (some m)] 71 :: R) w := H'
  clear H'
  exact ⟨[grow 3 1 v2 (((s.map fun p : IE => p.1).mergeSort (fun x y => decide (x ≤ y))).length) (((s.map fun p : IE => p.1).mergeSort (fun x y => decide (x ≤ y))).map (Value.int .i64)), diskA pd D], ⟨_, hks, rfl⟩, H.perm 3 [1, 0] rfl rfl⟩
end Go.Proofs.YtanejicgmgpjcaaGreatDoor
