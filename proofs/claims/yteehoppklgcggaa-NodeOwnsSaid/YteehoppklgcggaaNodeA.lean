/-
  Walks of package node and of its reference: what only reads. No condition.
-/
import Derived.Test.YteehoppklgcggaaRows
import Derived.Test.YteehoppklgcggaaNodeM
import Derived.IntWalk
set_option maxRecDepth 100000
namespace Go.Proofs.Yteehoppklgcggaa
open Go.RowKit
theorem fits_c (k v : Int) (w : World) : Calls Try.prog 30 #[.int .i64 k, .int .i64 v] w (Ret fun u w' => u = .bool (fitsB k v) ∧ Ext No w w') := by
  refine enter Try.func30 rfl 19 Try.ntmps30 rfl ?_
  refine k_seq ?_
  refine s_region ?_
  refine s_do rfl rfl rfl (d_assign rfl rfl) ?_
  refine s_end ?_
  refine k_seq ?_
  refine s_region ?_
  refine s_do rfl rfl rfl (d_move rfl rfl) ?_
  refine s_do rfl rfl rfl (d_geq rfl rfl rfl) ?_
  refine s_do rfl rfl rfl (d_move rfl rfl) ?_
  refine s_part 7 rfl (fun h1 => ?_) (fun h1 => ?_)
  · -- yes: (0 : Int) ≤ k
    refine s_do rfl rfl rfl (d_move rfl rfl) ?_
    refine s_do rfl rfl rfl (d_lss rfl rfl rfl) ?_
    refine s_do rfl rfl rfl (d_pick_t rfl rfl rfl) ?_
    refine s_do rfl rfl rfl (d_move rfl rfl) ?_
    refine s_part 11 rfl (fun h2 => ?_) (fun h2 => ?_)
    · -- yes: (k : Int) < 1048576
      refine s_do rfl rfl rfl (d_move rfl rfl) ?_
      refine s_do rfl rfl rfl (d_geq rfl rfl rfl) ?_
      refine s_do rfl rfl rfl (d_pick_t rfl rfl rfl) ?_
      refine s_do rfl rfl rfl (d_move rfl rfl) ?_
      refine s_part 15 rfl (fun h3 => ?_) (fun h3 => ?_)
      · -- yes: (1 : Int) ≤ v
        refine s_do rfl rfl rfl (d_move rfl rfl) ?_
        refine s_do rfl rfl rfl (d_lss rfl rfl rfl) ?_
        refine s_do rfl rfl rfl (d_pick_t rfl rfl rfl) ?_
        refine s_do rfl rfl rfl (d_assign rfl rfl) ?_
        refine s_end ?_
        refine k_ret ?_
        refine doneL rfl [.bool (decide ((v : Int) < 1024))] ⟨rfl, trivial⟩ (v := .bool (decide ((v : Int) < 1024))) rfl ?_
        have X := (Ext.refl No w)
        refine ⟨congrArg Value.bool ?_, X⟩
        unfold fitsB; rw [Bool.eq_iff_iff]; simp <;> omega
      · -- no: (1 : Int) ≤ v
        refine s_skip rfl rfl rfl ?_
        refine s_skip rfl rfl rfl ?_
        refine s_do rfl rfl rfl (d_pick_f rfl rfl rfl) ?_
        refine s_do rfl rfl rfl (d_assign rfl rfl) ?_
        refine s_end ?_
        refine k_ret ?_
        refine doneL rfl [.bool false] ⟨rfl, trivial⟩ (v := .bool false) rfl ?_
        have X := (Ext.refl No w)
        refine ⟨congrArg Value.bool ?_, X⟩
        unfold fitsB; rw [Bool.eq_iff_iff]; simp <;> omega
    · -- no: (k : Int) < 1048576
      refine s_skip rfl rfl rfl ?_
      refine s_skip rfl rfl rfl ?_
      refine s_do rfl rfl rfl (d_pick_f rfl rfl rfl) ?_
      refine s_do rfl rfl rfl (d_move rfl rfl) ?_
      refine s_skip rfl rfl rfl ?_
      refine s_skip rfl rfl rfl ?_
      refine s_do rfl rfl rfl (d_pick_f rfl rfl rfl) ?_
      refine s_do rfl rfl rfl (d_assign rfl rfl) ?_
      refine s_end ?_
      refine k_ret ?_
      refine doneL rfl [.bool false] ⟨rfl, trivial⟩ (v := .bool false) rfl ?_
      have X := (Ext.refl No w)
      refine ⟨congrArg Value.bool ?_, X⟩
      unfold fitsB; rw [Bool.eq_iff_iff]; simp <;> omega
  · -- no: (0 : Int) ≤ k
    refine s_skip rfl rfl rfl ?_
    refine s_skip rfl rfl rfl ?_
    refine s_do rfl rfl rfl (d_pick_f rfl rfl rfl) ?_
    refine s_do rfl rfl rfl (d_move rfl rfl) ?_
    refine s_skip rfl rfl rfl ?_
    refine s_skip rfl rfl rfl ?_
    refine s_do rfl rfl rfl (d_pick_f rfl rfl rfl) ?_
    refine s_do rfl rfl rfl (d_move rfl rfl) ?_
    refine s_skip rfl rfl rfl ?_
    refine s_skip rfl rfl rfl ?_
    refine s_do rfl rfl rfl (d_pick_f rfl rfl rfl) ?_
    refine s_do rfl rfl rfl (d_assign rfl rfl) ?_
    refine s_end ?_
    refine k_ret ?_
    refine doneL rfl [.bool false] ⟨rfl, trivial⟩ (v := .bool false) rfl ?_
    have X := (Ext.refl No w)
    refine ⟨congrArg Value.bool ?_, X⟩
    unfold fitsB; rw [Bool.eq_iff_iff]; simp <;> omega

theorem rfits_c (k v : Int) (w : World) : Calls Try.prog 29 #[.int .i64 k, .int .i64 v] w (Ret fun u w' => u = .bool (fitsB k v) ∧ Ext No w w') := by
  refine enter Try.func29 rfl 19 Try.ntmps29 rfl ?_
  refine k_seq ?_
  refine s_region ?_
  refine s_do rfl rfl rfl (d_assign rfl rfl) ?_
  refine s_end ?_
  refine k_seq ?_
  refine s_region ?_
  refine s_do rfl rfl rfl (d_move rfl rfl) ?_
  refine s_do rfl rfl rfl (d_geq rfl rfl rfl) ?_
  refine s_do rfl rfl rfl (d_move rfl rfl) ?_
  refine s_part 7 rfl (fun h1 => ?_) (fun h1 => ?_)
  · -- yes: (0 : Int) ≤ k
    refine s_do rfl rfl rfl (d_move rfl rfl) ?_
    refine s_do rfl rfl rfl (d_lss rfl rfl rfl) ?_
    refine s_do rfl rfl rfl (d_pick_t rfl rfl rfl) ?_
    refine s_do rfl rfl rfl (d_move rfl rfl) ?_
    refine s_part 11 rfl (fun h2 => ?_) (fun h2 => ?_)
    · -- yes: (k : Int) < 1048576
      refine s_do rfl rfl rfl (d_move rfl rfl) ?_
      refine s_do rfl rfl rfl (d_gtr rfl rfl rfl) ?_
      refine s_do rfl rfl rfl (d_pick_t rfl rfl rfl) ?_
      refine s_do rfl rfl rfl (d_move rfl rfl) ?_
      refine s_part 15 rfl (fun h3 => ?_) (fun h3 => ?_)
      · -- yes: (0 : Int) < v
        refine s_do rfl rfl rfl (d_move rfl rfl) ?_
        refine s_do rfl rfl rfl (d_lss rfl rfl rfl) ?_
        refine s_do rfl rfl rfl (d_pick_t rfl rfl rfl) ?_
        refine s_do rfl rfl rfl (d_assign rfl rfl) ?_
        refine s_end ?_
        refine k_ret ?_
        refine doneL rfl [.bool (decide ((v : Int) < 1024))] ⟨rfl, trivial⟩ (v := .bool (decide ((v : Int) < 1024))) rfl ?_
        have X := (Ext.refl No w)
        refine ⟨congrArg Value.bool ?_, X⟩
        unfold fitsB; rw [Bool.eq_iff_iff]; simp <;> omega
      · -- no: (0 : Int) < v
        refine s_skip rfl rfl rfl ?_
        refine s_skip rfl rfl rfl ?_
        refine s_do rfl rfl rfl (d_pick_f rfl rfl rfl) ?_
        refine s_do rfl rfl rfl (d_assign rfl rfl) ?_
        refine s_end ?_
        refine k_ret ?_
        refine doneL rfl [.bool false] ⟨rfl, trivial⟩ (v := .bool false) rfl ?_
        have X := (Ext.refl No w)
        refine ⟨congrArg Value.bool ?_, X⟩
        unfold fitsB; rw [Bool.eq_iff_iff]; simp <;> omega
    · -- no: (k : Int) < 1048576
      refine s_skip rfl rfl rfl ?_
      refine s_skip rfl rfl rfl ?_
      refine s_do rfl rfl rfl (d_pick_f rfl rfl rfl) ?_
      refine s_do rfl rfl rfl (d_move rfl rfl) ?_
      refine s_skip rfl rfl rfl ?_
      refine s_skip rfl rfl rfl ?_
      refine s_do rfl rfl rfl (d_pick_f rfl rfl rfl) ?_
      refine s_do rfl rfl rfl (d_assign rfl rfl) ?_
      refine s_end ?_
      refine k_ret ?_
      refine doneL rfl [.bool false] ⟨rfl, trivial⟩ (v := .bool false) rfl ?_
      have X := (Ext.refl No w)
      refine ⟨congrArg Value.bool ?_, X⟩
      unfold fitsB; rw [Bool.eq_iff_iff]; simp <;> omega
  · -- no: (0 : Int) ≤ k
    refine s_skip rfl rfl rfl ?_
    refine s_skip rfl rfl rfl ?_
    refine s_do rfl rfl rfl (d_pick_f rfl rfl rfl) ?_
    refine s_do rfl rfl rfl (d_move rfl rfl) ?_
    refine s_skip rfl rfl rfl ?_
    refine s_skip rfl rfl rfl ?_
    refine s_do rfl rfl rfl (d_pick_f rfl rfl rfl) ?_
    refine s_do rfl rfl rfl (d_move rfl rfl) ?_
    refine s_skip rfl rfl rfl ?_
    refine s_skip rfl rfl rfl ?_
    refine s_do rfl rfl rfl (d_pick_f rfl rfl rfl) ?_
    refine s_do rfl rfl rfl (d_assign rfl rfl) ?_
    refine s_end ?_
    refine k_ret ?_
    refine doneL rfl [.bool false] ⟨rfl, trivial⟩ (v := .bool false) rfl ?_
    have X := (Ext.refl No w)
    refine ⟨congrArg Value.bool ?_, X⟩
    unfold fitsB; rw [Bool.eq_iff_iff]; simp <;> omega

theorem find_c (lf : Bool) (kv vv : Value) (ks : List Int) (key : Int) (w : World) (hk : RdI kv ks w) :
    Calls Try.prog 14 #[.agg #[.bool lf, kv, vv], .int .i64 key] w (Ret fun v w' => v = .tuple #[.int .i64 (findN ks key), .bool (decide (ks[findN ks key]? = some key))] ∧ Ext No w w') := by
  obtain ⟨ka, kc, rfl, hkc, hkm, hc⟩ := hk.opened
  refine enter Try.func14 rfl 38 Try.ntmps14 rfl ?_
  refine k_seq ?_
  refine s_region ?_
  refine s_go rfl rfl rfl (g_box rfl rfl rfl) ?_
  rintro _ w1 ⟨b1, rfl, s1, t1, B1, x1⟩
  refine s_do rfl rfl rfl (d_assign rfl rfl) ?_
  refine s_do rfl rfl rfl (d_assign rfl rfl) ?_
  refine s_end ?_
  refine k_seq ?_
  refine s_region ?_
  refine s_do rfl rfl rfl (d_assign rfl rfl) ?_
  refine s_end ?_
  refine k_seq ?_
  refine k_block ?_
  refine c_loop (σ := Nat) (fun k => [(6, .int .i64 (k : Int)), (1, .int .i64 key), (2, .pointer (some ⟨b1, 0, none⟩)), (4, .int .i64 0), (5, .bool false)])
    (fun k wr => Ext No w1 wr ∧ (k ≤ ks.length ∧ ∀ (j : Nat) (x : Int), j < k → ks[j]? = some x → x < key)) (fun k => ks.length - k) 0
    (fun _ hF => (hF.cons (hF.cons (hF.cons (hF.cons (hF.cons hF.nil 5 _ _ rfl rfl) 4 _ _ rfl rfl) 2 _ _ rfl rfl) 1 _ _ rfl rfl) 6 _ _ rfl (by go_num))) ⟨Ext.refl _ _, by omega, fun j x h => by omega⟩ ?_
  rintro k wr2 ⟨x2, hI⟩
  have m2 := x2.size
  obtain ⟨hkl, hall⟩ := hI
  refine k_seq ?_
  refine k_seq ?_
  refine s_region ?_
  refine s_do rfl rfl rfl (d_move rfl rfl) ?_
  refine s_do rfl rfl rfl (d_field rfl (k := 1) (r := 1) (by kernel_rfl) rfl rfl) ?_
  refine s_do rfl rfl rfl (d_load rfl rfl (by kernel_rfl) (here ((B1.ext0 x2).cel 1 rfl))) ?_
  refine s_do rfl rfl rfl (d_len rfl (z := 1) (by kernel_rfl) rfl) ?_
  refine s_do rfl rfl rfl (d_lss rfl rfl rfl) ?_
  refine s_do rfl rfl rfl (d_move rfl rfl) ?_
  refine s_part 12 rfl (fun h1 => ?_) (fun h1 => ?_)
  · -- yes: (k : Int) < (ks.length : Int)
    refine s_do rfl rfl rfl (d_field rfl (k := 1) (r := 1) (by kernel_rfl) rfl rfl) ?_
    refine s_do rfl rfl rfl (d_load rfl rfl (by kernel_rfl) (here ((B1.ext0 x2).cel 1 rfl))) ?_
    refine s_do rfl rfl rfl (d_move rfl rfl) ?_
    obtain ⟨x, hx⟩ : ∃ x, ks[k]? = some x := ⟨_, List.getElem?_eq_getElem (by omega)⟩
    have hat := hc _ _ hx
    refine s_do rfl rfl rfl (d_indexE rfl (z := 1) (j := k) (r := k) (by kernel_rfl) rfl rfl rfl (by omega) hat (by omega)) ?_
    refine s_do rfl rfl rfl (d_loadE rfl rfl (by kernel_rfl) (here (((hat.ext0 x1).ext0 x2)))) ?_
    refine s_do rfl rfl rfl (d_move rfl rfl) ?_
    refine s_do rfl rfl rfl (d_lss rfl rfl rfl) ?_
    refine s_do rfl rfl rfl (d_pick_t rfl rfl rfl) ?_
    refine s_end ?_
    refine k_dec rfl (fun h2 => ?_) (fun h2 => ?_)
    · -- yes: (x : Int) < key
      refine k_skip ?_
      refine k_block ?_
      refine s_region ?_
      refine s_do rfl rfl rfl (d_move rfl rfl) ?_
      refine s_do rfl rfl rfl (d_add64 rfl rfl rfl (r := (k : Int) + 1) (by omega) (by omega)) ?_
      refine s_do rfl rfl rfl (d_assign rfl rfl) ?_
      refine s_end ?_
      intro _ hF
      refine ⟨(k + 1), (hF.cons (hF.cons (hF.cons (hF.cons (hF.cons hF.nil 5 _ _ rfl rfl) 4 _ _ rfl rfl) 2 _ _ rfl rfl) 1 _ _ rfl rfl) 6 _ _ rfl (by go_num)), ⟨x2, ?_⟩, ?_⟩
      · refine ⟨by omega, fun j y hj hy => ?_⟩
        rcases Nat.lt_or_ge j k with h | h
        · exact hall j y h hy
        · obtain rfl : j = k := by omega
          rw [hx] at hy; cases hy; omega
      · omega
    · -- no: (x : Int) < key
      refine k_exit ?_
      refine k_here ?_
      refine k_seq ?_
      refine q_region (Ext No wr2) (by kernel_rfl) (by kernel_rfl) ((Ext.refl _ _).drew) ?_
      refine q_do rfl rfl rfl (d_move rfl rfl) ?_
      refine q_do rfl rfl rfl (d_move rfl rfl) ?_
      refine q_do rfl rfl rfl (d_field rfl (k := 1) (r := 1) (by kernel_rfl) rfl rfl) ?_
      refine q_do rfl rfl rfl (d_load rfl rfl (by kernel_rfl) (fun _ hx => ((B1.ext0 x2).ext0 hx).cel 1 rfl)) ?_
      refine q_do rfl rfl rfl (d_len rfl (z := 1) (by kernel_rfl) rfl) ?_
      refine q_do rfl rfl rfl (d_lss rfl rfl rfl) ?_
      refine q_do rfl rfl rfl (d_move rfl rfl) ?_
      refine q_part 29 rfl (fun h3 => ?_) (fun h3 => ?_)
      · -- yes: (k : Int) < (ks.length : Int)
        refine q_do rfl rfl rfl (d_field rfl (k := 1) (r := 1) (by kernel_rfl) rfl rfl) ?_
        refine q_do rfl rfl rfl (d_load rfl rfl (by kernel_rfl) (fun _ hx => ((B1.ext0 x2).ext0 hx).cel 1 rfl)) ?_
        refine q_do rfl rfl rfl (d_move rfl rfl) ?_
        refine q_do rfl rfl rfl (d_indexE rfl (z := 1) (j := k) (r := k) (by kernel_rfl) rfl rfl rfl (by omega) hat (by omega)) ?_
        refine q_do rfl rfl rfl (d_loadE rfl rfl (by kernel_rfl) (fun _ hx => (((hat.ext0 x1).ext0 x2).ext0 hx))) ?_
        refine q_do rfl rfl rfl (d_move rfl rfl) ?_
        refine q_do rfl rfl rfl (d_eql rfl rfl rfl) ?_
        refine q_do rfl rfl rfl (d_pick_t rfl rfl rfl) ?_
        refine q_do rfl rfl rfl (d_assign rfl rfl) ?_
        refine q_do rfl rfl rfl (d_assign rfl rfl) ?_
        refine q_end (fun w3 x3 => ?_)
        have m3 := x3.size
        refine k_ret ?_
        refine doneL rfl [.int .i64 (k : Int), .bool (decide ((x : Int) = key))] ⟨rfl, ⟨rfl, trivial⟩⟩ (v := .tuple #[.int .i64 (k : Int), .bool (decide ((x : Int) = key))]) rfl ?_
        have X := ((((Ext.refl No w).trans x1).trans x2).trans x3)
        have e : findN ks key = k := findN_eq ks key k hkl hall (fun y hy => by first | (rw [hx] at hy; cases hy; omega) | (rw [List.getElem?_eq_none (l := ks) (i := k) (by omega)] at hy; cases hy))
        refine ⟨?_, X⟩
        rw [e]
        first | simp [hx] | (rw [List.getElem?_eq_none (l := ks) (i := k) (by omega)]; simp)
      · exact absurd h1 h3
  · -- no: (k : Int) < (ks.length : Int)
    refine s_skip rfl rfl rfl ?_
    refine s_skip rfl rfl rfl ?_
    refine s_skip rfl rfl rfl ?_
    refine s_skip rfl rfl rfl ?_
    refine s_skip rfl rfl rfl ?_
    refine s_skip rfl rfl rfl ?_
    refine s_skip rfl rfl rfl ?_
    refine s_do rfl rfl rfl (d_pick_f rfl rfl rfl) ?_
    refine s_end ?_
    refine k_false rfl ?_
    refine k_exit ?_
    refine k_here ?_
    refine k_seq ?_
    refine q_region (Ext No wr2) (by kernel_rfl) (by kernel_rfl) ((Ext.refl _ _).drew) ?_
    refine q_do rfl rfl rfl (d_move rfl rfl) ?_
    refine q_do rfl rfl rfl (d_move rfl rfl) ?_
    refine q_do rfl rfl rfl (d_field rfl (k := 1) (r := 1) (by kernel_rfl) rfl rfl) ?_
    refine q_do rfl rfl rfl (d_load rfl rfl (by kernel_rfl) (fun _ hx => ((B1.ext0 x2).ext0 hx).cel 1 rfl)) ?_
    refine q_do rfl rfl rfl (d_len rfl (z := 1) (by kernel_rfl) rfl) ?_
    refine q_do rfl rfl rfl (d_lss rfl rfl rfl) ?_
    refine q_do rfl rfl rfl (d_move rfl rfl) ?_
    refine q_part 29 rfl (fun h4 => ?_) (fun h4 => ?_)
    · exact absurd h4 h1
    · -- no: (k : Int) < (ks.length : Int)
      refine q_skip rfl rfl rfl ?_
      refine q_skip rfl rfl rfl ?_
      refine q_skip rfl rfl rfl ?_
      refine q_skip rfl rfl rfl ?_
      refine q_skip rfl rfl rfl ?_
      refine q_skip rfl rfl rfl ?_
      refine q_skip rfl rfl rfl ?_
      refine q_do rfl rfl rfl (d_pick_f rfl rfl rfl) ?_
      refine q_do rfl rfl rfl (d_assign rfl rfl) ?_
      refine q_do rfl rfl rfl (d_assign rfl rfl) ?_
      refine q_end (fun w4 x4 => ?_)
      have m4 := x4.size
      refine k_ret ?_
      refine doneL rfl [.int .i64 (k : Int), .bool false] ⟨rfl, ⟨rfl, trivial⟩⟩ (v := .tuple #[.int .i64 (k : Int), .bool false]) rfl ?_
      have X := ((((Ext.refl No w).trans x1).trans x2).trans x4)
      have e : findN ks key = k := findN_eq ks key k hkl hall (fun y hy => by first | (rw [hx] at hy; cases hy; omega) | (rw [List.getElem?_eq_none (l := ks) (i := k) (by omega)] at hy; cases hy))
      refine ⟨?_, X⟩
      rw [e]
      first | simp [hx] | (rw [List.getElem?_eq_none (l := ks) (i := k) (by omega)]; simp)

theorem rfind_c (lf : Bool) (kv vv : Value) (ks : List Int) (key : Int) (w : World) (hk : RdI kv ks w) :
    Calls Try.prog 15 #[.agg #[.bool lf, kv, vv], .int .i64 key] w (Ret fun v w' => v = .tuple #[.int .i64 (findN ks key), .bool (decide (ks[findN ks key]? = some key))] ∧ Ext No w w') := by
  obtain ⟨ka, kc, rfl, hkc, hkm, hc⟩ := hk.opened
  refine enter Try.func15 rfl 32 Try.ntmps15 rfl ?_
  refine k_seq ?_
  refine s_region ?_
  refine s_go rfl rfl rfl (g_box rfl rfl rfl) ?_
  rintro _ w1 ⟨b1, rfl, s1, t1, B1, x1⟩
  refine s_do rfl rfl rfl (d_assign rfl rfl) ?_
  refine s_do rfl rfl rfl (d_assign rfl rfl) ?_
  refine s_end ?_
  refine k_seq ?_
  refine k_seq ?_
  refine s_region ?_
  refine s_do rfl rfl rfl (d_assign rfl rfl) ?_
  refine s_end ?_
  refine k_block ?_
  refine c_loop (σ := Nat) (fun k => [(6, .int .i64 (k : Int)), (1, .int .i64 key), (2, .pointer (some ⟨b1, 0, none⟩))])
    (fun k wr => Ext No w1 wr ∧ (k ≤ ks.length ∧ ∀ (j : Nat) (x : Int), j < k → ks[j]? = some x → x < key)) (fun k => ks.length - k) 0
    (fun _ hF => (hF.cons (hF.cons (hF.cons hF.nil 2 _ _ rfl rfl) 1 _ _ rfl rfl) 6 _ _ rfl (by go_num))) ⟨Ext.refl _ _, by omega, fun j x h => by omega⟩ ?_
  rintro k wr2 ⟨x2, hI⟩
  have m2 := x2.size
  obtain ⟨hkl, hall⟩ := hI
  refine k_seq ?_
  refine k_seq ?_
  refine s_region ?_
  refine s_do rfl rfl rfl (d_move rfl rfl) ?_
  refine s_do rfl rfl rfl (d_field rfl (k := 1) (r := 1) (by kernel_rfl) rfl rfl) ?_
  refine s_do rfl rfl rfl (d_load rfl rfl (by kernel_rfl) (here ((B1.ext0 x2).cel 1 rfl))) ?_
  refine s_do rfl rfl rfl (d_len rfl (z := 1) (by kernel_rfl) rfl) ?_
  refine s_do rfl rfl rfl (d_lss rfl rfl rfl) ?_
  refine s_end ?_
  refine k_dec rfl (fun h1 => ?_) (fun h1 => ?_)
  · -- yes: (k : Int) < (ks.length : Int)
    refine k_skip ?_
    refine k_seq ?_
    refine k_block ?_
    refine k_seq ?_
    refine s_region ?_
    refine s_do rfl rfl rfl (d_field rfl (k := 1) (r := 1) (by kernel_rfl) rfl rfl) ?_
    refine s_do rfl rfl rfl (d_load rfl rfl (by kernel_rfl) (here ((B1.ext0 x2).cel 1 rfl))) ?_
    refine s_do rfl rfl rfl (d_move rfl rfl) ?_
    obtain ⟨x, hx⟩ : ∃ x, ks[k]? = some x := ⟨_, List.getElem?_eq_getElem (by omega)⟩
    have hat := hc _ _ hx
    refine s_do rfl rfl rfl (d_indexE rfl (z := 1) (j := k) (r := k) (by kernel_rfl) rfl rfl rfl (by omega) hat (by omega)) ?_
    refine s_do rfl rfl rfl (d_loadE rfl rfl (by kernel_rfl) (here (((hat.ext0 x1).ext0 x2)))) ?_
    refine s_do rfl rfl rfl (d_move rfl rfl) ?_
    refine s_do rfl rfl rfl (d_geq rfl rfl rfl) ?_
    refine s_end ?_
    refine k_dec rfl (fun h2 => ?_) (fun h2 => ?_)
    · -- yes: (key : Int) ≤ x
      refine k_seq ?_
      refine q_region (Ext No wr2) (by kernel_rfl) (by kernel_rfl) ((Ext.refl _ _).drew) ?_
      refine q_do rfl rfl rfl (d_move rfl rfl) ?_
      refine q_do rfl rfl rfl (d_field rfl (k := 1) (r := 1) (by kernel_rfl) rfl rfl) ?_
      refine q_do rfl rfl rfl (d_load rfl rfl (by kernel_rfl) (fun _ hx => ((B1.ext0 x2).ext0 hx).cel 1 rfl)) ?_
      refine q_do rfl rfl rfl (d_move rfl rfl) ?_
      refine q_do rfl rfl rfl (d_indexE rfl (z := 1) (j := k) (r := k) (by kernel_rfl) rfl rfl rfl (by omega) hat (by omega)) ?_
      refine q_do rfl rfl rfl (d_loadE rfl rfl (by kernel_rfl) (fun _ hx => (((hat.ext0 x1).ext0 x2).ext0 hx))) ?_
      refine q_do rfl rfl rfl (d_move rfl rfl) ?_
      refine q_do rfl rfl rfl (d_eql rfl rfl rfl) ?_
      refine q_do rfl rfl rfl (d_assign rfl rfl) ?_
      refine q_do rfl rfl rfl (d_assign rfl rfl) ?_
      refine q_end (fun w3 x3 => ?_)
      have m3 := x3.size
      refine k_ret ?_
      refine doneL rfl [.int .i64 (k : Int), .bool (decide ((x : Int) = key))] ⟨rfl, ⟨rfl, trivial⟩⟩ (v := .tuple #[.int .i64 (k : Int), .bool (decide ((x : Int) = key))]) rfl ?_
      have X := ((((Ext.refl No w).trans x1).trans x2).trans x3)
      have e : findN ks key = k := findN_eq ks key k hkl hall (fun y hy => by first | (rw [hx] at hy; cases hy; omega) | (rw [List.getElem?_eq_none (l := ks) (i := k) (by omega)] at hy; cases hy))
      refine ⟨?_, X⟩
      rw [e]
      first | (simp [hx]; done) | (obtain rfl : k = ks.length := by omega); rw [List.getElem?_eq_none (l := ks) (i := ks.length) (by omega)]; simp
    · -- no: (key : Int) ≤ x
      refine k_skip ?_
      refine s_region ?_
      refine s_do rfl rfl rfl (d_move rfl rfl) ?_
      refine s_do rfl rfl rfl (d_add64 rfl rfl rfl (r := (k : Int) + 1) (by omega) (by omega)) ?_
      refine s_do rfl rfl rfl (d_assign rfl rfl) ?_
      refine s_end ?_
      intro _ hF
      refine ⟨(k + 1), (hF.cons (hF.cons (hF.cons hF.nil 2 _ _ rfl rfl) 1 _ _ rfl rfl) 6 _ _ rfl (by go_num)), ⟨x2, ?_⟩, ?_⟩
      · refine ⟨by omega, fun j y hj hy => ?_⟩
        rcases Nat.lt_or_ge j k with h | h
        · exact hall j y h hy
        · obtain rfl : j = k := by omega
          rw [hx] at hy; cases hy; omega
      · omega
  · -- no: (k : Int) < (ks.length : Int)
    refine k_exit ?_
    refine k_here ?_
    refine k_seq ?_
    refine s_region ?_
    refine s_do rfl rfl rfl (d_field rfl (k := 1) (r := 1) (by kernel_rfl) rfl rfl) ?_
    refine s_do rfl rfl rfl (d_load rfl rfl (by kernel_rfl) (here ((B1.ext0 x2).cel 1 rfl))) ?_
    refine s_do rfl rfl rfl (d_len rfl (z := 1) (by kernel_rfl) rfl) ?_
    refine s_do rfl rfl rfl (d_assign rfl rfl) ?_
    refine s_do rfl rfl rfl (d_assign rfl rfl) ?_
    refine s_end ?_
    refine k_ret ?_
    refine doneL rfl [.int .i64 (ks.length : Int), .bool false] ⟨rfl, ⟨rfl, trivial⟩⟩ (v := .tuple #[.int .i64 (ks.length : Int), .bool false]) rfl ?_
    have X := (((Ext.refl No w).trans x1).trans x2)
    have e : findN ks key = k := findN_eq ks key k hkl hall (fun y hy => by first | (rw [hx] at hy; cases hy; omega) | (rw [List.getElem?_eq_none (l := ks) (i := k) (by omega)] at hy; cases hy))
    refine ⟨?_, X⟩
    rw [e]
    first | (simp [hx]; done) | (obtain rfl : k = ks.length := by omega); rw [List.getElem?_eq_none (l := ks) (i := ks.length) (by omega)]; simp

theorem child_c (lf : Bool) (kv vv : Value) (ks : List Int) (key : Int) (w : World) (hk : RdI kv ks w) :
    Calls Try.prog 16 #[.agg #[.bool lf, kv, vv], .int .i64 key] w (Ret fun v w' => v = .int .i64 (max 0 ((leN ks key : Int) - 1)) ∧ Ext No w w') := by
  obtain ⟨ka, kc, rfl, hkc, hkm, hc⟩ := hk.opened
  refine enter Try.func16 rfl 25 Try.ntmps16 rfl ?_
  refine k_seq ?_
  refine s_region ?_
  refine s_go rfl rfl rfl (g_box rfl rfl rfl) ?_
  rintro _ w1 ⟨b1, rfl, s1, t1, B1, x1⟩
  refine s_do rfl rfl rfl (d_assign rfl rfl) ?_
  refine s_end ?_
  refine k_seq ?_
  refine s_region ?_
  refine s_do rfl rfl rfl (d_assign rfl rfl) ?_
  refine s_end ?_
  refine k_seq ?_
  refine k_block ?_
  refine c_loop (σ := Nat) (fun k => [(5, .int .i64 (k : Int)), (1, .int .i64 key), (2, .pointer (some ⟨b1, 0, none⟩)), (4, .int .i64 0)])
    (fun k wr => Ext No w1 wr ∧ (k ≤ ks.length ∧ ∀ (j : Nat) (x : Int), j < k → ks[j]? = some x → x ≤ key)) (fun k => ks.length - k) 0
    (fun _ hF => (hF.cons (hF.cons (hF.cons (hF.cons hF.nil 4 _ _ rfl rfl) 2 _ _ rfl rfl) 1 _ _ rfl rfl) 5 _ _ rfl (by go_num))) ⟨Ext.refl _ _, by omega, fun j x h => by omega⟩ ?_
  rintro k wr2 ⟨x2, hI⟩
  have m2 := x2.size
  obtain ⟨hkl, hall⟩ := hI
  refine k_seq ?_
  refine k_seq ?_
  refine s_region ?_
  refine s_do rfl rfl rfl (d_move rfl rfl) ?_
  refine s_do rfl rfl rfl (d_field rfl (k := 1) (r := 1) (by kernel_rfl) rfl rfl) ?_
  refine s_do rfl rfl rfl (d_load rfl rfl (by kernel_rfl) (here ((B1.ext0 x2).cel 1 rfl))) ?_
  refine s_do rfl rfl rfl (d_len rfl (z := 1) (by kernel_rfl) rfl) ?_
  refine s_do rfl rfl rfl (d_lss rfl rfl rfl) ?_
  refine s_do rfl rfl rfl (d_move rfl rfl) ?_
  refine s_part 11 rfl (fun h1 => ?_) (fun h1 => ?_)
  · -- yes: (k : Int) < (ks.length : Int)
    refine s_do rfl rfl rfl (d_field rfl (k := 1) (r := 1) (by kernel_rfl) rfl rfl) ?_
    refine s_do rfl rfl rfl (d_load rfl rfl (by kernel_rfl) (here ((B1.ext0 x2).cel 1 rfl))) ?_
    refine s_do rfl rfl rfl (d_move rfl rfl) ?_
    obtain ⟨x, hx⟩ : ∃ x, ks[k]? = some x := ⟨_, List.getElem?_eq_getElem (by omega)⟩
    have hat := hc _ _ hx
    refine s_do rfl rfl rfl (d_indexE rfl (z := 1) (j := k) (r := k) (by kernel_rfl) rfl rfl rfl (by omega) hat (by omega)) ?_
    refine s_do rfl rfl rfl (d_loadE rfl rfl (by kernel_rfl) (here (((hat.ext0 x1).ext0 x2)))) ?_
    refine s_do rfl rfl rfl (d_move rfl rfl) ?_
    refine s_do rfl rfl rfl (d_leq rfl rfl rfl) ?_
    refine s_do rfl rfl rfl (d_pick_t rfl rfl rfl) ?_
    refine s_end ?_
    refine k_dec rfl (fun h2 => ?_) (fun h2 => ?_)
    · -- yes: (x : Int) ≤ key
      refine k_skip ?_
      refine k_block ?_
      refine s_region ?_
      refine s_do rfl rfl rfl (d_move rfl rfl) ?_
      refine s_do rfl rfl rfl (d_add64 rfl rfl rfl (r := (k : Int) + 1) (by omega) (by omega)) ?_
      refine s_do rfl rfl rfl (d_assign rfl rfl) ?_
      refine s_end ?_
      intro _ hF
      refine ⟨(k + 1), (hF.cons (hF.cons (hF.cons (hF.cons hF.nil 4 _ _ rfl rfl) 2 _ _ rfl rfl) 1 _ _ rfl rfl) 5 _ _ rfl (by go_num)), ⟨x2, ?_⟩, ?_⟩
      · refine ⟨by omega, fun j y hj hy => ?_⟩
        rcases Nat.lt_or_ge j k with h | h
        · exact hall j y h hy
        · obtain rfl : j = k := by omega
          rw [hx] at hy; cases hy; omega
      · omega
    · -- no: (x : Int) ≤ key
      refine k_exit ?_
      refine k_here ?_
      refine k_seq ?_
      refine s_region ?_
      refine s_do rfl rfl rfl (d_move rfl rfl) ?_
      refine s_do rfl rfl rfl (d_sub64 rfl rfl rfl (r := (k : Int) - 1) (by omega) (by omega)) ?_
      refine s_do rfl rfl rfl (d_max rfl rfl rfl) ?_
      refine s_do rfl rfl rfl (d_assign rfl rfl) ?_
      refine s_end ?_
      refine k_ret ?_
      refine doneL rfl [.int .i64 (max (0 : Int) ((k : Int) - 1))] ⟨rfl, trivial⟩ (v := .int .i64 (max (0 : Int) ((k : Int) - 1))) rfl ?_
      have X := (((Ext.refl No w).trans x1).trans x2)
      have e : leN ks key = k := leN_eq ks key k hkl hall (fun y hy => by first | (rw [hx] at hy; cases hy; omega) | (rw [List.getElem?_eq_none (l := ks) (i := k) (by omega)] at hy; cases hy))
      refine ⟨?_, X⟩
      rw [e]
  · -- no: (k : Int) < (ks.length : Int)
    refine s_skip rfl rfl rfl ?_
    refine s_skip rfl rfl rfl ?_
    refine s_skip rfl rfl rfl ?_
    refine s_skip rfl rfl rfl ?_
    refine s_skip rfl rfl rfl ?_
    refine s_skip rfl rfl rfl ?_
    refine s_skip rfl rfl rfl ?_
    refine s_do rfl rfl rfl (d_pick_f rfl rfl rfl) ?_
    refine s_end ?_
    refine k_false rfl ?_
    refine k_exit ?_
    refine k_here ?_
    refine k_seq ?_
    refine s_region ?_
    refine s_do rfl rfl rfl (d_move rfl rfl) ?_
    refine s_do rfl rfl rfl (d_sub64 rfl rfl rfl (r := (k : Int) - 1) (by omega) (by omega)) ?_
    refine s_do rfl rfl rfl (d_max rfl rfl rfl) ?_
    refine s_do rfl rfl rfl (d_assign rfl rfl) ?_
    refine s_end ?_
    refine k_ret ?_
    refine doneL rfl [.int .i64 (max (0 : Int) ((k : Int) - 1))] ⟨rfl, trivial⟩ (v := .int .i64 (max (0 : Int) ((k : Int) - 1))) rfl ?_
    have X := (((Ext.refl No w).trans x1).trans x2)
    have e : leN ks key = k := leN_eq ks key k hkl hall (fun y hy => by first | (rw [hx] at hy; cases hy; omega) | (rw [List.getElem?_eq_none (l := ks) (i := k) (by omega)] at hy; cases hy))
    refine ⟨?_, X⟩
    rw [e]

theorem rchild_c (lf : Bool) (kv vv : Value) (ks : List Int) (key : Int) (w : World) (hk : RdI kv ks w) :
    Calls Try.prog 17 #[.agg #[.bool lf, kv, vv], .int .i64 key] w (Ret fun v w' => v = .int .i64 (max 0 ((leN ks key : Int) - 1)) ∧ Ext No w w') := by
  obtain ⟨ka, kc, rfl, hkc, hkm, hc⟩ := hk.opened
  refine enter Try.func17 rfl 24 Try.ntmps17 rfl ?_
  refine k_seq ?_
  refine s_region ?_
  refine s_go rfl rfl rfl (g_box rfl rfl rfl) ?_
  rintro _ w1 ⟨b1, rfl, s1, t1, B1, x1⟩
  refine s_do rfl rfl rfl (d_assign rfl rfl) ?_
  refine s_end ?_
  refine k_seq ?_
  refine s_region ?_
  refine s_do rfl rfl rfl (d_assign rfl rfl) ?_
  refine s_end ?_
  refine k_seq ?_
  refine k_seq ?_
  refine s_region ?_
  refine s_do rfl rfl rfl (d_assign rfl rfl) ?_
  refine s_end ?_
  refine k_block ?_
  refine c_loop (σ := Nat) (fun k => [(6, .int .i64 (k : Int)), (5, .int .i64 (max 0 ((k : Int) - 1))), (1, .int .i64 key), (2, .pointer (some ⟨b1, 0, none⟩))])
    (fun k wr => Ext No w1 wr ∧ (k ≤ ks.length ∧ ∀ (j : Nat) (x : Int), j < k → ks[j]? = some x → x ≤ key)) (fun k => ks.length - k) 0
    (fun _ hF => (hF.cons (hF.cons (hF.cons (hF.cons hF.nil 2 _ _ rfl rfl) 1 _ _ rfl rfl) 5 _ _ rfl (congrArg _ (by omega))) 6 _ _ rfl (by go_num))) ⟨Ext.refl _ _, by omega, fun j x h => by omega⟩ ?_
  rintro k wr2 ⟨x2, hI⟩
  have m2 := x2.size
  obtain ⟨hkl, hall⟩ := hI
  refine k_seq ?_
  refine k_seq ?_
  refine s_region ?_
  refine s_do rfl rfl rfl (d_move rfl rfl) ?_
  refine s_do rfl rfl rfl (d_field rfl (k := 1) (r := 1) (by kernel_rfl) rfl rfl) ?_
  refine s_do rfl rfl rfl (d_load rfl rfl (by kernel_rfl) (here ((B1.ext0 x2).cel 1 rfl))) ?_
  refine s_do rfl rfl rfl (d_len rfl (z := 1) (by kernel_rfl) rfl) ?_
  refine s_do rfl rfl rfl (d_lss rfl rfl rfl) ?_
  refine s_end ?_
  refine k_dec rfl (fun h1 => ?_) (fun h1 => ?_)
  · -- yes: (k : Int) < (ks.length : Int)
    refine k_skip ?_
    refine k_seq ?_
    refine k_block ?_
    refine k_seq ?_
    refine k_seq ?_
    refine s_region ?_
    refine s_do rfl rfl rfl (d_field rfl (k := 1) (r := 1) (by kernel_rfl) rfl rfl) ?_
    refine s_do rfl rfl rfl (d_load rfl rfl (by kernel_rfl) (here ((B1.ext0 x2).cel 1 rfl))) ?_
    refine s_do rfl rfl rfl (d_move rfl rfl) ?_
    obtain ⟨x, hx⟩ : ∃ x, ks[k]? = some x := ⟨_, List.getElem?_eq_getElem (by omega)⟩
    have hat := hc _ _ hx
    refine s_do rfl rfl rfl (d_indexE rfl (z := 1) (j := k) (r := k) (by kernel_rfl) rfl rfl rfl (by omega) hat (by omega)) ?_
    refine s_do rfl rfl rfl (d_loadE rfl rfl (by kernel_rfl) (here (((hat.ext0 x1).ext0 x2)))) ?_
    refine s_do rfl rfl rfl (d_move rfl rfl) ?_
    refine s_do rfl rfl rfl (d_gtr rfl rfl rfl) ?_
    refine s_end ?_
    refine k_dec rfl (fun h2 => ?_) (fun h2 => ?_)
    · -- yes: (key : Int) < x
      refine k_seq ?_
      refine s_region ?_
      refine s_do rfl rfl rfl (d_move rfl rfl) ?_
      refine s_do rfl rfl rfl (d_assign rfl rfl) ?_
      refine s_end ?_
      refine k_ret ?_
      refine doneL rfl [.int .i64 (max 0 ((k : Int) - 1))] ⟨rfl, trivial⟩ (v := .int .i64 (max 0 ((k : Int) - 1))) rfl ?_
      have X := (((Ext.refl No w).trans x1).trans x2)
      have e : leN ks key = k := leN_eq ks key k hkl hall (fun y hy => by first | (rw [hx] at hy; cases hy; omega) | (rw [List.getElem?_eq_none (l := ks) (i := k) (by omega)] at hy; cases hy))
      refine ⟨?_, X⟩
      rw [e]
    · -- no: (key : Int) < x
      refine k_skip ?_
      refine s_region ?_
      refine s_do rfl rfl rfl (d_move rfl rfl) ?_
      refine s_do rfl rfl rfl (d_assign rfl rfl) ?_
      refine s_end ?_
      refine s_region ?_
      refine s_do rfl rfl rfl (d_move rfl rfl) ?_
      refine s_do rfl rfl rfl (d_add64 rfl rfl rfl (r := (k : Int) + 1) (by omega) (by omega)) ?_
      refine s_do rfl rfl rfl (d_assign rfl rfl) ?_
      refine s_end ?_
      intro _ hF
      refine ⟨(k + 1), (hF.cons (hF.cons (hF.cons (hF.cons hF.nil 2 _ _ rfl rfl) 1 _ _ rfl rfl) 5 _ _ rfl (congrArg _ (by omega))) 6 _ _ rfl (by go_num)), ⟨x2, ?_⟩, ?_⟩
      · refine ⟨by omega, fun j y hj hy => ?_⟩
        rcases Nat.lt_or_ge j k with h | h
        · exact hall j y h hy
        · obtain rfl : j = k := by omega
          rw [hx] at hy; cases hy; omega
      · omega
  · -- no: (k : Int) < (ks.length : Int)
    refine k_exit ?_
    refine k_here ?_
    refine k_seq ?_
    refine s_region ?_
    refine s_do rfl rfl rfl (d_move rfl rfl) ?_
    refine s_do rfl rfl rfl (d_assign rfl rfl) ?_
    refine s_end ?_
    refine k_ret ?_
    refine doneL rfl [.int .i64 (max 0 ((k : Int) - 1))] ⟨rfl, trivial⟩ (v := .int .i64 (max 0 ((k : Int) - 1))) rfl ?_
    have X := (((Ext.refl No w).trans x1).trans x2)
    have e : leN ks key = k := leN_eq ks key k hkl hall (fun y hy => by first | (rw [hx] at hy; cases hy; omega) | (rw [List.getElem?_eq_none (l := ks) (i := k) (by omega)] at hy; cases hy))
    refine ⟨?_, X⟩
    rw [e]

theorem check_c (lf : Bool) (kv vv : Value) (ks vs : List Int) (w : World) (hk : RdI kv ks w) (hv : RdI vv vs w) :
    Calls Try.prog 12 #[.agg #[.bool lf, kv, vv]] w (Ret fun v w' => v = .int .i64 (errN (okB lf ks vs)) ∧ Ext No w w') := by
  have hk0 := hk; have hv0 := hv
  obtain ⟨ka, kc, rfl, hkc, hkm, hc⟩ := hk.opened
  obtain ⟨va, vc, rfl, hvc, hvm, hd⟩ := hv.opened
  refine enter Try.func12 rfl 65 Try.ntmps12 rfl ?_
  refine k_seq ?_
  refine s_region ?_
  refine s_go rfl rfl rfl (g_box rfl rfl rfl) ?_
  rintro _ w1 ⟨b1, rfl, s1, t1, B1, x1⟩
  refine s_do rfl rfl rfl (d_assign rfl rfl) ?_
  refine s_end ?_
  refine k_seq ?_
  refine k_seq ?_
  refine s_region ?_
  refine s_do rfl rfl rfl (d_field rfl (k := 1) (r := 1) (by kernel_rfl) rfl rfl) ?_
  refine s_do rfl rfl rfl (d_load rfl rfl (by kernel_rfl) (here (B1.cel 1 rfl))) ?_
  refine s_do rfl rfl rfl (d_len rfl (z := 1) (by kernel_rfl) rfl) ?_
  refine s_do rfl rfl rfl (d_field rfl (k := 2) (r := 2) (by kernel_rfl) rfl rfl) ?_
  refine s_do rfl rfl rfl (d_load rfl rfl (by kernel_rfl) (here (B1.cel 2 rfl))) ?_
  refine s_do rfl rfl rfl (d_len rfl (z := 1) (by kernel_rfl) rfl) ?_
  refine s_do rfl rfl rfl (d_neq rfl rfl rfl) ?_
  refine s_do rfl rfl rfl (d_move rfl rfl) ?_
  refine s_part 11 rfl (fun h1 => ?_) (fun h1 => ?_)
  · -- yes: (ks.length : Int) ≠ (vs.length : Int)
    refine s_skip rfl rfl rfl ?_
    refine s_skip rfl rfl rfl ?_
    refine s_skip rfl rfl rfl ?_
    refine s_skip rfl rfl rfl ?_
    refine s_do rfl rfl rfl (d_pick_t rfl rfl rfl) ?_
    refine s_do rfl rfl rfl (d_move rfl rfl) ?_
    refine s_skip rfl rfl rfl ?_
    refine s_skip rfl rfl rfl ?_
    refine s_skip rfl rfl rfl ?_
    refine s_skip rfl rfl rfl ?_
    refine s_skip rfl rfl rfl ?_
    refine s_skip rfl rfl rfl ?_
    refine s_skip rfl rfl rfl ?_
    refine s_skip rfl rfl rfl ?_
    refine s_skip rfl rfl rfl ?_
    refine s_do rfl rfl rfl (d_pick_t rfl rfl rfl) ?_
    refine s_end ?_
    refine k_true rfl ?_
    refine k_seq ?_
    refine s_region ?_
    refine s_do rfl rfl rfl (d_assign rfl rfl) ?_
    refine s_end ?_
    refine k_ret ?_
    refine doneL rfl [.int .i64 22] ⟨rfl, trivial⟩ (v := .int .i64 22) rfl ?_
    have X := ((Ext.refl No w).trans x1)
    have hok : ¬ OkN lf ks vs := fun ⟨p1, p2, p3, p4, p5⟩ => by
      first | omega | (have := p4 _ _ _ hx hy; simp_all; done) | (have := p5 _ _ _ hx0 (by rw [show k - 1 + 1 = k from by omega]; exact hx); omega) | (rcases p3 with p3 | p3 <;> first | omega | simp_all)
    exact ⟨by simp [errN, okB_f hok], X⟩
  · -- no: (ks.length : Int) ≠ (vs.length : Int)
    refine s_do rfl rfl rfl (d_field rfl (k := 1) (r := 1) (by kernel_rfl) rfl rfl) ?_
    refine s_do rfl rfl rfl (d_load rfl rfl (by kernel_rfl) (here (B1.cel 1 rfl))) ?_
    refine s_do rfl rfl rfl (d_len rfl (z := 1) (by kernel_rfl) rfl) ?_
    refine s_do rfl rfl rfl (d_gtr rfl rfl rfl) ?_
    refine s_do rfl rfl rfl (d_pick_f rfl rfl rfl) ?_
    refine s_do rfl rfl rfl (d_move rfl rfl) ?_
    refine s_part 17 rfl (fun h2 => ?_) (fun h2 => ?_)
    · -- yes: (8 : Int) < (ks.length : Int)
      refine s_skip rfl rfl rfl ?_
      refine s_skip rfl rfl rfl ?_
      refine s_skip rfl rfl rfl ?_
      refine s_skip rfl rfl rfl ?_
      refine s_skip rfl rfl rfl ?_
      refine s_skip rfl rfl rfl ?_
      refine s_skip rfl rfl rfl ?_
      refine s_skip rfl rfl rfl ?_
      refine s_skip rfl rfl rfl ?_
      refine s_do rfl rfl rfl (d_pick_t rfl rfl rfl) ?_
      refine s_end ?_
      refine k_true rfl ?_
      refine k_seq ?_
      refine s_region ?_
      refine s_do rfl rfl rfl (d_assign rfl rfl) ?_
      refine s_end ?_
      refine k_ret ?_
      refine doneL rfl [.int .i64 22] ⟨rfl, trivial⟩ (v := .int .i64 22) rfl ?_
      have X := ((Ext.refl No w).trans x1)
      have hok : ¬ OkN lf ks vs := fun ⟨p1, p2, p3, p4, p5⟩ => by
        first | omega | (have := p4 _ _ _ hx hy; simp_all; done) | (have := p5 _ _ _ hx0 (by rw [show k - 1 + 1 = k from by omega]; exact hx); omega) | (rcases p3 with p3 | p3 <;> first | omega | simp_all)
      exact ⟨by simp [errN, okB_f hok], X⟩
    · -- no: (8 : Int) < (ks.length : Int)
      refine s_do rfl rfl rfl (d_field rfl (k := 0) (r := 0) (by kernel_rfl) rfl rfl) ?_
      refine s_do rfl rfl rfl (d_load rfl rfl (by kernel_rfl) (here (B1.cel 0 rfl))) ?_
      refine s_do rfl rfl rfl (d_not rfl rfl) ?_
      refine s_do rfl rfl rfl (d_move rfl rfl) ?_
      refine s_part_b 21 rfl (fun h3 => ?_) (fun h3 => ?_)
      · -- yes: (!lf)
        refine s_do rfl rfl rfl (d_field rfl (k := 1) (r := 1) (by kernel_rfl) rfl rfl) ?_
        refine s_do rfl rfl rfl (d_load rfl rfl (by kernel_rfl) (here (B1.cel 1 rfl))) ?_
        refine s_do rfl rfl rfl (d_len rfl (z := 1) (by kernel_rfl) rfl) ?_
        refine s_do rfl rfl rfl (d_eql rfl rfl rfl) ?_
        refine s_do rfl rfl rfl (d_pick_t rfl rfl rfl) ?_
        refine s_do rfl rfl rfl (d_pick_f rfl rfl rfl) ?_
        refine s_end ?_
        refine k_dec rfl (fun h4 => ?_) (fun h4 => ?_)
        · -- yes: (ks.length : Int) = 0
          refine k_seq ?_
          refine s_region ?_
          refine s_do rfl rfl rfl (d_assign rfl rfl) ?_
          refine s_end ?_
          refine k_ret ?_
          refine doneL rfl [.int .i64 22] ⟨rfl, trivial⟩ (v := .int .i64 22) rfl ?_
          have X := ((Ext.refl No w).trans x1)
          have hok : ¬ OkN lf ks vs := fun ⟨p1, p2, p3, p4, p5⟩ => by
            first | omega | (have := p4 _ _ _ hx hy; simp_all; done) | (have := p5 _ _ _ hx0 (by rw [show k - 1 + 1 = k from by omega]; exact hx); omega) | (rcases p3 with p3 | p3 <;> first | omega | simp_all)
          exact ⟨by simp [errN, okB_f hok], X⟩
        · -- no: (ks.length : Int) = 0
          refine k_skip ?_
          refine k_seq ?_
          refine k_seq ?_
          refine s_region ?_
          refine s_do rfl rfl rfl (d_field rfl (k := 1) (r := 1) (by kernel_rfl) rfl rfl) ?_
          refine s_do rfl rfl rfl (d_load rfl rfl (by kernel_rfl) (here (B1.cel 1 rfl))) ?_
          refine s_do rfl rfl rfl (d_len rfl (z := 1) (by kernel_rfl) rfl) ?_
          refine s_do rfl rfl rfl (d_move rfl rfl) ?_
          refine s_end ?_
          refine k_block ?_
          refine c_loop (σ := Nat) (fun k => [(31, .int .i64 (k : Int)), (1, .pointer (some ⟨b1, 0, none⟩)), (30, .int .i64 (ks.length : Int))])
            (fun k wr => Ext No w1 wr ∧ (k ≤ ks.length ∧ (∀ (i : Nat) (x y : Int), i < k → ks[i]? = some x → vs[i]? = some y → fitsB x y = true) ∧ (∀ (i : Nat) (x y : Int), i + 1 < k → ks[i]? = some x → ks[i + 1]? = some y → x < y))) (fun k => ks.length - k) 0
            (fun _ hF => (hF.cons (hF.cons (hF.cons hF.nil 30 _ _ rfl rfl) 1 _ _ rfl rfl) 31 _ _ rfl (by go_num))) ⟨Ext.refl _ _, by omega, fun i x y h => by omega, fun i x y h => by omega⟩ ?_
          rintro k wr2 ⟨x2, hI⟩
          have m2 := x2.size
          obtain ⟨hkl, hfit, hup⟩ := hI
          refine k_seq ?_
          refine s_region ?_
          refine s_do rfl rfl rfl (d_lss rfl rfl rfl) ?_
          refine s_end ?_
          refine k_seq ?_
          refine k_dec rfl (fun h5 => ?_) (fun h5 => ?_)
          · -- yes: (k : Int) < (ks.length : Int)
            refine k_skip ?_
            refine k_seq ?_
            refine k_block ?_
            refine k_seq ?_
            refine s_region ?_
            refine s_do rfl rfl rfl (d_move rfl rfl) ?_
            refine s_do rfl rfl rfl (d_assign rfl rfl) ?_
            refine s_end ?_
            refine k_seq ?_
            refine q_region (Ext No wr2) (by kernel_rfl) (by kernel_rfl) ((Ext.refl _ _).drew) ?_
            refine q_do rfl rfl rfl (d_field rfl (k := 1) (r := 1) (by kernel_rfl) rfl rfl) ?_
            refine q_do rfl rfl rfl (d_load rfl rfl (by kernel_rfl) (fun _ hx => ((B1.ext0 x2).ext0 hx).cel 1 rfl)) ?_
            refine q_do rfl rfl rfl (d_move rfl rfl) ?_
            obtain ⟨x, hx⟩ : ∃ x, ks[k]? = some x := ⟨_, List.getElem?_eq_getElem (by omega)⟩
            have hat := hc _ _ hx
            refine q_do rfl rfl rfl (d_indexE rfl (z := 1) (j := k) (r := k) (by kernel_rfl) rfl rfl rfl (by omega) hat (by omega)) ?_
            refine q_do rfl rfl rfl (d_loadE rfl rfl (by kernel_rfl) (fun _ hx => (((hat.ext0 x1).ext0 x2).ext0 hx))) ?_
            refine q_do rfl rfl rfl (d_field rfl (k := 2) (r := 2) (by kernel_rfl) rfl rfl) ?_
            refine q_do rfl rfl rfl (d_load rfl rfl (by kernel_rfl) (fun _ hx => ((B1.ext0 x2).ext0 hx).cel 2 rfl)) ?_
            refine q_do rfl rfl rfl (d_move rfl rfl) ?_
            obtain ⟨y, hy⟩ : ∃ x, vs[k]? = some x := ⟨_, List.getElem?_eq_getElem (by omega)⟩
            have hbt := hd _ _ hy
            refine q_do rfl rfl rfl (d_indexE rfl (z := 1) (j := k) (r := k) (by kernel_rfl) rfl rfl rfl (by omega) hbt (by omega)) ?_
            refine q_do rfl rfl rfl (d_loadE rfl rfl (by kernel_rfl) (fun _ hx => (((hbt.ext0 x1).ext0 x2).ext0 hx))) ?_
            refine q_call rfl rfl rfl rfl rfl (fun w => Try.call30 _ w) (v := .bool (fitsB x y)) (fun _ hx => q_ok hx (fits_c _ _ _)) ?_
            refine q_do rfl rfl rfl (d_not rfl rfl) ?_
            refine q_do rfl rfl rfl (d_move rfl rfl) ?_
            refine q_part_b 46 rfl (fun h6 => ?_) (fun h6 => ?_)
            · -- yes: (!fitsB x y)
              refine q_skip rfl rfl rfl ?_
              refine q_skip rfl rfl rfl ?_
              refine q_skip rfl rfl rfl ?_
              refine q_skip rfl rfl rfl ?_
              refine q_skip rfl rfl rfl ?_
              refine q_skip rfl rfl rfl ?_
              refine q_skip rfl rfl rfl ?_
              refine q_skip rfl rfl rfl ?_
              refine q_skip rfl rfl rfl ?_
              refine q_skip rfl rfl rfl ?_
              refine q_skip rfl rfl rfl ?_
              refine q_skip rfl rfl rfl ?_
              refine q_skip rfl rfl rfl ?_
              refine q_skip rfl rfl rfl ?_
              refine q_skip rfl rfl rfl ?_
              refine q_skip rfl rfl rfl ?_
              refine q_do rfl rfl rfl (d_pick_t rfl rfl rfl) ?_
              refine q_end (fun w3 x3 => ?_)
              have m3 := x3.size
              refine k_true rfl ?_
              refine k_seq ?_
              refine s_region ?_
              refine s_do rfl rfl rfl (d_assign rfl rfl) ?_
              refine s_end ?_
              refine k_ret ?_
              refine doneL rfl [.int .i64 22] ⟨rfl, trivial⟩ (v := .int .i64 22) rfl ?_
              have X := ((((Ext.refl No w).trans x1).trans x2).trans x3)
              have hok : ¬ OkN lf ks vs := fun ⟨p1, p2, p3, p4, p5⟩ => by
                first | omega | (have := p4 _ _ _ hx hy; simp_all; done) | (have := p5 _ _ _ hx0 (by rw [show k - 1 + 1 = k from by omega]; exact hx); omega) | (rcases p3 with p3 | p3 <;> first | omega | simp_all)
              exact ⟨by simp [errN, okB_f hok], X⟩
            · -- no: (!fitsB x y)
              refine q_do rfl rfl rfl (d_move rfl rfl) ?_
              refine q_do rfl rfl rfl (d_gtr rfl rfl rfl) ?_
              refine q_do rfl rfl rfl (d_move rfl rfl) ?_
              refine q_part 49 rfl (fun h7 => ?_) (fun h7 => ?_)
              · -- yes: (0 : Int) < (k : Int)
                refine q_do rfl rfl rfl (d_field rfl (k := 1) (r := 1) (by kernel_rfl) rfl rfl) ?_
                refine q_do rfl rfl rfl (d_load rfl rfl (by kernel_rfl) (fun _ hx => ((B1.ext0 x2).ext0 hx).cel 1 rfl)) ?_
                refine q_do rfl rfl rfl (d_move rfl rfl) ?_
                refine q_do rfl rfl rfl (d_sub64 rfl rfl rfl (r := (k : Int) - 1) (by omega) (by omega)) ?_
                obtain ⟨x0, hx0⟩ : ∃ x, ks[k - 1]? = some x := ⟨_, List.getElem?_eq_getElem (by omega)⟩
                have hat0 := hc _ _ hx0
                refine q_do rfl rfl rfl (d_indexE rfl (z := 1) (j := (k - 1)) (r := (k - 1)) (by kernel_rfl) rfl rfl (by omega) (by omega) hat0 (by omega)) ?_
                refine q_do rfl rfl rfl (d_loadE rfl rfl (by kernel_rfl) (fun _ hx => (((hat0.ext0 x1).ext0 x2).ext0 hx))) ?_
                refine q_do rfl rfl rfl (d_field rfl (k := 1) (r := 1) (by kernel_rfl) rfl rfl) ?_
                refine q_do rfl rfl rfl (d_load rfl rfl (by kernel_rfl) (fun _ hx => ((B1.ext0 x2).ext0 hx).cel 1 rfl)) ?_
                refine q_do rfl rfl rfl (d_move rfl rfl) ?_
                refine q_do rfl rfl rfl (d_indexE rfl (z := 1) (j := k) (r := k) (by kernel_rfl) rfl rfl rfl (by omega) hat0 (by omega)) ?_
                refine q_do rfl rfl rfl (d_loadE rfl rfl (by kernel_rfl) (fun _ hx => (((hat.ext0 x1).ext0 x2).ext0 hx))) ?_
                refine q_do rfl rfl rfl (d_geq rfl rfl rfl) ?_
                refine q_do rfl rfl rfl (d_pick_t rfl rfl rfl) ?_
                refine q_do rfl rfl rfl (d_pick_f rfl rfl rfl) ?_
                refine q_end (fun w4 x4 => ?_)
                have m4 := x4.size
                refine k_dec rfl (fun h8 => ?_) (fun h8 => ?_)
                · -- yes: (x : Int) ≤ x0
                  refine k_seq ?_
                  refine s_region ?_
                  refine s_do rfl rfl rfl (d_assign rfl rfl) ?_
                  refine s_end ?_
                  refine k_ret ?_
                  refine doneL rfl [.int .i64 22] ⟨rfl, trivial⟩ (v := .int .i64 22) rfl ?_
                  have X := ((((Ext.refl No w).trans x1).trans x2).trans x4)
                  have hok : ¬ OkN lf ks vs := fun ⟨p1, p2, p3, p4, p5⟩ => by
                    first | omega | (have := p4 _ _ _ hx hy; simp_all; done) | (have := p5 _ _ _ hx0 (by rw [show k - 1 + 1 = k from by omega]; exact hx); omega) | (rcases p3 with p3 | p3 <;> first | omega | simp_all)
                  exact ⟨by simp [errN, okB_f hok], X⟩
                · -- no: (x : Int) ≤ x0
                  refine k_skip ?_
                  refine s_region ?_
                  refine s_do rfl rfl rfl (d_add64 rfl rfl rfl (r := (k : Int) + 1) (by omega) (by omega)) ?_
                  refine s_do rfl rfl rfl (d_move rfl rfl) ?_
                  refine s_end ?_
                  intro _ hF
                  refine ⟨(k + 1), (hF.cons (hF.cons (hF.cons hF.nil 30 _ _ rfl rfl) 1 _ _ rfl rfl) 31 _ _ rfl (by go_num)), ⟨(x2.trans x4), ?_⟩, ?_⟩
                  · refine ⟨by omega, fun i p q hi hp hq => ?_, fun i p q hi hp hq => ?_⟩
                    · rcases Nat.lt_or_ge i k with h | h
                      · exact hfit i p q h hp hq
                      · obtain rfl : i = k := by omega
                        rw [hx] at hp; rw [hy] at hq; cases hp; cases hq; first | assumption | simp_all
                    · rcases Nat.lt_or_ge (i + 1) k with h | h
                      · exact hup i p q h hp hq
                      · obtain rfl : k = i + 1 := by omega
                        rw [hx] at hq; cases hq; first | omega | (rw [show i + 1 - 1 = i from rfl] at hx0; rw [hx0] at hp; cases hp; omega)
                  · omega
              · -- no: (0 : Int) < (k : Int)
                refine q_skip rfl rfl rfl ?_
                refine q_skip rfl rfl rfl ?_
                refine q_skip rfl rfl rfl ?_
                refine q_skip rfl rfl rfl ?_
                refine q_skip rfl rfl rfl ?_
                refine q_skip rfl rfl rfl ?_
                refine q_skip rfl rfl rfl ?_
                refine q_skip rfl rfl rfl ?_
                refine q_skip rfl rfl rfl ?_
                refine q_skip rfl rfl rfl ?_
                refine q_skip rfl rfl rfl ?_
                refine q_skip rfl rfl rfl ?_
                refine q_do rfl rfl rfl (d_pick_f rfl rfl rfl) ?_
                refine q_do rfl rfl rfl (d_pick_f rfl rfl rfl) ?_
                refine q_end (fun w5 x5 => ?_)
                have m5 := x5.size
                refine k_false rfl ?_
                refine k_skip ?_
                refine s_region ?_
                refine s_do rfl rfl rfl (d_add64 rfl rfl rfl (r := (k : Int) + 1) (by omega) (by omega)) ?_
                refine s_do rfl rfl rfl (d_move rfl rfl) ?_
                refine s_end ?_
                intro _ hF
                refine ⟨(k + 1), (hF.cons (hF.cons (hF.cons hF.nil 30 _ _ rfl rfl) 1 _ _ rfl rfl) 31 _ _ rfl (by go_num)), ⟨(x2.trans x5), ?_⟩, ?_⟩
                · refine ⟨by omega, fun i p q hi hp hq => ?_, fun i p q hi hp hq => ?_⟩
                  · rcases Nat.lt_or_ge i k with h | h
                    · exact hfit i p q h hp hq
                    · obtain rfl : i = k := by omega
                      rw [hx] at hp; rw [hy] at hq; cases hp; cases hq; first | assumption | simp_all
                  · rcases Nat.lt_or_ge (i + 1) k with h | h
                    · exact hup i p q h hp hq
                    · obtain rfl : k = i + 1 := by omega
                      rw [hx] at hq; cases hq; first | omega | (rw [show i + 1 - 1 = i from rfl] at hx0; rw [hx0] at hp; cases hp; omega)
                · omega
          · -- no: (k : Int) < (ks.length : Int)
            refine k_exit ?_
            refine k_here ?_
            refine k_seq ?_
            refine s_region ?_
            refine s_do rfl rfl rfl (d_assign rfl rfl) ?_
            refine s_end ?_
            refine k_ret ?_
            refine doneL rfl [.int .i64 0] ⟨rfl, trivial⟩ (v := .int .i64 0) rfl ?_
            have X := (((Ext.refl No w).trans x1).trans x2)
            have hok : OkN lf ks vs := ⟨by omega, by omega, by first | (right; omega) | (left; simp_all), fun i x y hp hq => hfit i x y (by have := (List.getElem?_eq_some_iff.1 hp).1; omega) hp hq, fun i x y hp hq => hup i x y (by have := (List.getElem?_eq_some_iff.1 hq).1; omega) hp hq⟩
            exact ⟨by simp [errN, okB_t hok], X⟩
      · -- no: (!lf)
        refine s_skip rfl rfl rfl ?_
        refine s_skip rfl rfl rfl ?_
        refine s_skip rfl rfl rfl ?_
        refine s_skip rfl rfl rfl ?_
        refine s_do rfl rfl rfl (d_pick_f rfl rfl rfl) ?_
        refine s_do rfl rfl rfl (d_pick_f rfl rfl rfl) ?_
        refine s_end ?_
        refine k_false rfl ?_
        refine k_skip ?_
        refine k_seq ?_
        refine k_seq ?_
        refine s_region ?_
        refine s_do rfl rfl rfl (d_field rfl (k := 1) (r := 1) (by kernel_rfl) rfl rfl) ?_
        refine s_do rfl rfl rfl (d_load rfl rfl (by kernel_rfl) (here (B1.cel 1 rfl))) ?_
        refine s_do rfl rfl rfl (d_len rfl (z := 1) (by kernel_rfl) rfl) ?_
        refine s_do rfl rfl rfl (d_move rfl rfl) ?_
        refine s_end ?_
        refine k_block ?_
        refine c_loop (σ := Nat) (fun k => [(31, .int .i64 (k : Int)), (1, .pointer (some ⟨b1, 0, none⟩)), (30, .int .i64 (ks.length : Int))])
          (fun k wr => Ext No w1 wr ∧ (k ≤ ks.length ∧ (∀ (i : Nat) (x y : Int), i < k → ks[i]? = some x → vs[i]? = some y → fitsB x y = true) ∧ (∀ (i : Nat) (x y : Int), i + 1 < k → ks[i]? = some x → ks[i + 1]? = some y → x < y))) (fun k => ks.length - k) 0
          (fun _ hF => (hF.cons (hF.cons (hF.cons hF.nil 30 _ _ rfl rfl) 1 _ _ rfl rfl) 31 _ _ rfl (by go_num))) ⟨Ext.refl _ _, by omega, fun i x y h => by omega, fun i x y h => by omega⟩ ?_
        rintro k wr6 ⟨x6, hI⟩
        have m6 := x6.size
        obtain ⟨hkl, hfit, hup⟩ := hI
        refine k_seq ?_
        refine s_region ?_
        refine s_do rfl rfl rfl (d_lss rfl rfl rfl) ?_
        refine s_end ?_
        refine k_seq ?_
        refine k_dec rfl (fun h9 => ?_) (fun h9 => ?_)
        · -- yes: (k : Int) < (ks.length : Int)
          refine k_skip ?_
          refine k_seq ?_
          refine k_block ?_
          refine k_seq ?_
          refine s_region ?_
          refine s_do rfl rfl rfl (d_move rfl rfl) ?_
          refine s_do rfl rfl rfl (d_assign rfl rfl) ?_
          refine s_end ?_
          refine k_seq ?_
          refine q_region (Ext No wr6) (by kernel_rfl) (by kernel_rfl) ((Ext.refl _ _).drew) ?_
          refine q_do rfl rfl rfl (d_field rfl (k := 1) (r := 1) (by kernel_rfl) rfl rfl) ?_
          refine q_do rfl rfl rfl (d_load rfl rfl (by kernel_rfl) (fun _ hx => ((B1.ext0 x6).ext0 hx).cel 1 rfl)) ?_
          refine q_do rfl rfl rfl (d_move rfl rfl) ?_
          obtain ⟨x, hx⟩ : ∃ x, ks[k]? = some x := ⟨_, List.getElem?_eq_getElem (by omega)⟩
          have hat := hc _ _ hx
          refine q_do rfl rfl rfl (d_indexE rfl (z := 1) (j := k) (r := k) (by kernel_rfl) rfl rfl rfl (by omega) hat (by omega)) ?_
          refine q_do rfl rfl rfl (d_loadE rfl rfl (by kernel_rfl) (fun _ hx => (((hat.ext0 x1).ext0 x6).ext0 hx))) ?_
          refine q_do rfl rfl rfl (d_field rfl (k := 2) (r := 2) (by kernel_rfl) rfl rfl) ?_
          refine q_do rfl rfl rfl (d_load rfl rfl (by kernel_rfl) (fun _ hx => ((B1.ext0 x6).ext0 hx).cel 2 rfl)) ?_
          refine q_do rfl rfl rfl (d_move rfl rfl) ?_
          obtain ⟨y, hy⟩ : ∃ x, vs[k]? = some x := ⟨_, List.getElem?_eq_getElem (by omega)⟩
          have hbt := hd _ _ hy
          refine q_do rfl rfl rfl (d_indexE rfl (z := 1) (j := k) (r := k) (by kernel_rfl) rfl rfl rfl (by omega) hbt (by omega)) ?_
          refine q_do rfl rfl rfl (d_loadE rfl rfl (by kernel_rfl) (fun _ hx => (((hbt.ext0 x1).ext0 x6).ext0 hx))) ?_
          refine q_call rfl rfl rfl rfl rfl (fun w => Try.call30 _ w) (v := .bool (fitsB x y)) (fun _ hx => q_ok hx (fits_c _ _ _)) ?_
          refine q_do rfl rfl rfl (d_not rfl rfl) ?_
          refine q_do rfl rfl rfl (d_move rfl rfl) ?_
          refine q_part_b 46 rfl (fun h10 => ?_) (fun h10 => ?_)
          · -- yes: (!fitsB x y)
            refine q_skip rfl rfl rfl ?_
            refine q_skip rfl rfl rfl ?_
            refine q_skip rfl rfl rfl ?_
            refine q_skip rfl rfl rfl ?_
            refine q_skip rfl rfl rfl ?_
            refine q_skip rfl rfl rfl ?_
            refine q_skip rfl rfl rfl ?_
            refine q_skip rfl rfl rfl ?_
            refine q_skip rfl rfl rfl ?_
            refine q_skip rfl rfl rfl ?_
            refine q_skip rfl rfl rfl ?_
            refine q_skip rfl rfl rfl ?_
            refine q_skip rfl rfl rfl ?_
            refine q_skip rfl rfl rfl ?_
            refine q_skip rfl rfl rfl ?_
            refine q_skip rfl rfl rfl ?_
            refine q_do rfl rfl rfl (d_pick_t rfl rfl rfl) ?_
            refine q_end (fun w7 x7 => ?_)
            have m7 := x7.size
            refine k_true rfl ?_
            refine k_seq ?_
            refine s_region ?_
            refine s_do rfl rfl rfl (d_assign rfl rfl) ?_
            refine s_end ?_
            refine k_ret ?_
            refine doneL rfl [.int .i64 22] ⟨rfl, trivial⟩ (v := .int .i64 22) rfl ?_
            have X := ((((Ext.refl No w).trans x1).trans x6).trans x7)
            have hok : ¬ OkN lf ks vs := fun ⟨p1, p2, p3, p4, p5⟩ => by
              first | omega | (have := p4 _ _ _ hx hy; simp_all; done) | (have := p5 _ _ _ hx0 (by rw [show k - 1 + 1 = k from by omega]; exact hx); omega) | (rcases p3 with p3 | p3 <;> first | omega | simp_all)
            exact ⟨by simp [errN, okB_f hok], X⟩
          · -- no: (!fitsB x y)
            refine q_do rfl rfl rfl (d_move rfl rfl) ?_
            refine q_do rfl rfl rfl (d_gtr rfl rfl rfl) ?_
            refine q_do rfl rfl rfl (d_move rfl rfl) ?_
            refine q_part 49 rfl (fun h11 => ?_) (fun h11 => ?_)
            · -- yes: (0 : Int) < (k : Int)
              refine q_do rfl rfl rfl (d_field rfl (k := 1) (r := 1) (by kernel_rfl) rfl rfl) ?_
              refine q_do rfl rfl rfl (d_load rfl rfl (by kernel_rfl) (fun _ hx => ((B1.ext0 x6).ext0 hx).cel 1 rfl)) ?_
              refine q_do rfl rfl rfl (d_move rfl rfl) ?_
              refine q_do rfl rfl rfl (d_sub64 rfl rfl rfl (r := (k : Int) - 1) (by omega) (by omega)) ?_
              obtain ⟨x0, hx0⟩ : ∃ x, ks[k - 1]? = some x := ⟨_, List.getElem?_eq_getElem (by omega)⟩
              have hat0 := hc _ _ hx0
              refine q_do rfl rfl rfl (d_indexE rfl (z := 1) (j := (k - 1)) (r := (k - 1)) (by kernel_rfl) rfl rfl (by omega) (by omega) hat0 (by omega)) ?_
              refine q_do rfl rfl rfl (d_loadE rfl rfl (by kernel_rfl) (fun _ hx => (((hat0.ext0 x1).ext0 x6).ext0 hx))) ?_
              refine q_do rfl rfl rfl (d_field rfl (k := 1) (r := 1) (by kernel_rfl) rfl rfl) ?_
              refine q_do rfl rfl rfl (d_load rfl rfl (by kernel_rfl) (fun _ hx => ((B1.ext0 x6).ext0 hx).cel 1 rfl)) ?_
              refine q_do rfl rfl rfl (d_move rfl rfl) ?_
              refine q_do rfl rfl rfl (d_indexE rfl (z := 1) (j := k) (r := k) (by kernel_rfl) rfl rfl rfl (by omega) hat0 (by omega)) ?_
              refine q_do rfl rfl rfl (d_loadE rfl rfl (by kernel_rfl) (fun _ hx => (((hat.ext0 x1).ext0 x6).ext0 hx))) ?_
              refine q_do rfl rfl rfl (d_geq rfl rfl rfl) ?_
              refine q_do rfl rfl rfl (d_pick_t rfl rfl rfl) ?_
              refine q_do rfl rfl rfl (d_pick_f rfl rfl rfl) ?_
              refine q_end (fun w8 x8 => ?_)
              have m8 := x8.size
              refine k_dec rfl (fun h12 => ?_) (fun h12 => ?_)
              · -- yes: (x : Int) ≤ x0
                refine k_seq ?_
                refine s_region ?_
                refine s_do rfl rfl rfl (d_assign rfl rfl) ?_
                refine s_end ?_
                refine k_ret ?_
                refine doneL rfl [.int .i64 22] ⟨rfl, trivial⟩ (v := .int .i64 22) rfl ?_
                have X := ((((Ext.refl No w).trans x1).trans x6).trans x8)
                have hok : ¬ OkN lf ks vs := fun ⟨p1, p2, p3, p4, p5⟩ => by
                  first | omega | (have := p4 _ _ _ hx hy; simp_all; done) | (have := p5 _ _ _ hx0 (by rw [show k - 1 + 1 = k from by omega]; exact hx); omega) | (rcases p3 with p3 | p3 <;> first | omega | simp_all)
                exact ⟨by simp [errN, okB_f hok], X⟩
              · -- no: (x : Int) ≤ x0
                refine k_skip ?_
                refine s_region ?_
                refine s_do rfl rfl rfl (d_add64 rfl rfl rfl (r := (k : Int) + 1) (by omega) (by omega)) ?_
                refine s_do rfl rfl rfl (d_move rfl rfl) ?_
                refine s_end ?_
                intro _ hF
                refine ⟨(k + 1), (hF.cons (hF.cons (hF.cons hF.nil 30 _ _ rfl rfl) 1 _ _ rfl rfl) 31 _ _ rfl (by go_num)), ⟨(x6.trans x8), ?_⟩, ?_⟩
                · refine ⟨by omega, fun i p q hi hp hq => ?_, fun i p q hi hp hq => ?_⟩
                  · rcases Nat.lt_or_ge i k with h | h
                    · exact hfit i p q h hp hq
                    · obtain rfl : i = k := by omega
                      rw [hx] at hp; rw [hy] at hq; cases hp; cases hq; first | assumption | simp_all
                  · rcases Nat.lt_or_ge (i + 1) k with h | h
                    · exact hup i p q h hp hq
                    · obtain rfl : k = i + 1 := by omega
                      rw [hx] at hq; cases hq; first | omega | (rw [show i + 1 - 1 = i from rfl] at hx0; rw [hx0] at hp; cases hp; omega)
                · omega
            · -- no: (0 : Int) < (k : Int)
              refine q_skip rfl rfl rfl ?_
              refine q_skip rfl rfl rfl ?_
              refine q_skip rfl rfl rfl ?_
              refine q_skip rfl rfl rfl ?_
              refine q_skip rfl rfl rfl ?_
              refine q_skip rfl rfl rfl ?_
              refine q_skip rfl rfl rfl ?_
              refine q_skip rfl rfl rfl ?_
              refine q_skip rfl rfl rfl ?_
              refine q_skip rfl rfl rfl ?_
              refine q_skip rfl rfl rfl ?_
              refine q_skip rfl rfl rfl ?_
              refine q_do rfl rfl rfl (d_pick_f rfl rfl rfl) ?_
              refine q_do rfl rfl rfl (d_pick_f rfl rfl rfl) ?_
              refine q_end (fun w9 x9 => ?_)
              have m9 := x9.size
              refine k_false rfl ?_
              refine k_skip ?_
              refine s_region ?_
              refine s_do rfl rfl rfl (d_add64 rfl rfl rfl (r := (k : Int) + 1) (by omega) (by omega)) ?_
              refine s_do rfl rfl rfl (d_move rfl rfl) ?_
              refine s_end ?_
              intro _ hF
              refine ⟨(k + 1), (hF.cons (hF.cons (hF.cons hF.nil 30 _ _ rfl rfl) 1 _ _ rfl rfl) 31 _ _ rfl (by go_num)), ⟨(x6.trans x9), ?_⟩, ?_⟩
              · refine ⟨by omega, fun i p q hi hp hq => ?_, fun i p q hi hp hq => ?_⟩
                · rcases Nat.lt_or_ge i k with h | h
                  · exact hfit i p q h hp hq
                  · obtain rfl : i = k := by omega
                    rw [hx] at hp; rw [hy] at hq; cases hp; cases hq; first | assumption | simp_all
                · rcases Nat.lt_or_ge (i + 1) k with h | h
                  · exact hup i p q h hp hq
                  · obtain rfl : k = i + 1 := by omega
                    rw [hx] at hq; cases hq; first | omega | (rw [show i + 1 - 1 = i from rfl] at hx0; rw [hx0] at hp; cases hp; omega)
              · omega
        · -- no: (k : Int) < (ks.length : Int)
          refine k_exit ?_
          refine k_here ?_
          refine k_seq ?_
          refine s_region ?_
          refine s_do rfl rfl rfl (d_assign rfl rfl) ?_
          refine s_end ?_
          refine k_ret ?_
          refine doneL rfl [.int .i64 0] ⟨rfl, trivial⟩ (v := .int .i64 0) rfl ?_
          have X := (((Ext.refl No w).trans x1).trans x6)
          have hok : OkN lf ks vs := ⟨by omega, by omega, by first | (right; omega) | (left; simp_all), fun i x y hp hq => hfit i x y (by have := (List.getElem?_eq_some_iff.1 hp).1; omega) hp hq, fun i x y hp hq => hup i x y (by have := (List.getElem?_eq_some_iff.1 hq).1; omega) hp hq⟩
          exact ⟨by simp [errN, okB_t hok], X⟩

theorem may_c (lf : Bool) (kv vv : Value) (ks vs : List Int) (w : World) (hk : RdI kv ks w) (hv : RdI vv vs w) :
    Calls Try.prog 11 #[.agg #[.bool lf, kv, vv]] w (Ret fun v w' => v = .bool (okB lf ks vs) ∧ Ext No w w') := by
  have hk0 := hk; have hv0 := hv
  obtain ⟨ka, kc, rfl, hkc, hkm, hc⟩ := hk.opened
  obtain ⟨va, vc, rfl, hvc, hvm, hd⟩ := hv.opened
  refine enter Try.func11 rfl 67 Try.ntmps11 rfl ?_
  refine k_seq ?_
  refine s_region ?_
  refine s_go rfl rfl rfl (g_box rfl rfl rfl) ?_
  rintro _ w1 ⟨b1, rfl, s1, t1, B1, x1⟩
  refine s_do rfl rfl rfl (d_assign rfl rfl) ?_
  refine s_end ?_
  refine k_seq ?_
  refine k_seq ?_
  refine s_region ?_
  refine s_do rfl rfl rfl (d_field rfl (k := 1) (r := 1) (by kernel_rfl) rfl rfl) ?_
  refine s_do rfl rfl rfl (d_load rfl rfl (by kernel_rfl) (here (B1.cel 1 rfl))) ?_
  refine s_do rfl rfl rfl (d_len rfl (z := 1) (by kernel_rfl) rfl) ?_
  refine s_do rfl rfl rfl (d_field rfl (k := 2) (r := 2) (by kernel_rfl) rfl rfl) ?_
  refine s_do rfl rfl rfl (d_load rfl rfl (by kernel_rfl) (here (B1.cel 2 rfl))) ?_
  refine s_do rfl rfl rfl (d_len rfl (z := 1) (by kernel_rfl) rfl) ?_
  refine s_do rfl rfl rfl (d_neq rfl rfl rfl) ?_
  refine s_do rfl rfl rfl (d_move rfl rfl) ?_
  refine s_part 12 rfl (fun h1 => ?_) (fun h1 => ?_)
  · -- yes: (ks.length : Int) ≠ (vs.length : Int)
    refine s_skip rfl rfl rfl ?_
    refine s_skip rfl rfl rfl ?_
    refine s_skip rfl rfl rfl ?_
    refine s_skip rfl rfl rfl ?_
    refine s_do rfl rfl rfl (d_pick_t rfl rfl rfl) ?_
    refine s_do rfl rfl rfl (d_move rfl rfl) ?_
    refine s_skip rfl rfl rfl ?_
    refine s_skip rfl rfl rfl ?_
    refine s_skip rfl rfl rfl ?_
    refine s_skip rfl rfl rfl ?_
    refine s_skip rfl rfl rfl ?_
    refine s_skip rfl rfl rfl ?_
    refine s_skip rfl rfl rfl ?_
    refine s_skip rfl rfl rfl ?_
    refine s_skip rfl rfl rfl ?_
    refine s_do rfl rfl rfl (d_pick_t rfl rfl rfl) ?_
    refine s_end ?_
    refine k_true rfl ?_
    refine k_seq ?_
    refine s_region ?_
    refine s_do rfl rfl rfl (d_assign rfl rfl) ?_
    refine s_end ?_
    refine k_ret ?_
    refine doneL rfl [.bool false] ⟨rfl, trivial⟩ (v := .bool false) rfl ?_
    have X := ((Ext.refl No w).trans x1)
    have hok : ¬ OkN lf ks vs := fun ⟨p1, p2, p3, p4, p5⟩ => by
      first | omega | (have := p4 _ _ _ hx hy; simp_all; done) | (have := p5 _ _ _ hx0 (by rw [show k - 1 + 1 = k from by omega]; exact hx); omega) | (rcases p3 with p3 | p3 <;> first | omega | simp_all)
    exact ⟨by simp [errN, okB_f hok], X⟩
  · -- no: (ks.length : Int) ≠ (vs.length : Int)
    refine s_do rfl rfl rfl (d_field rfl (k := 1) (r := 1) (by kernel_rfl) rfl rfl) ?_
    refine s_do rfl rfl rfl (d_load rfl rfl (by kernel_rfl) (here (B1.cel 1 rfl))) ?_
    refine s_do rfl rfl rfl (d_len rfl (z := 1) (by kernel_rfl) rfl) ?_
    refine s_do rfl rfl rfl (d_gtr rfl rfl rfl) ?_
    refine s_do rfl rfl rfl (d_pick_f rfl rfl rfl) ?_
    refine s_do rfl rfl rfl (d_move rfl rfl) ?_
    refine s_part 18 rfl (fun h2 => ?_) (fun h2 => ?_)
    · -- yes: (8 : Int) < (ks.length : Int)
      refine s_skip rfl rfl rfl ?_
      refine s_skip rfl rfl rfl ?_
      refine s_skip rfl rfl rfl ?_
      refine s_skip rfl rfl rfl ?_
      refine s_skip rfl rfl rfl ?_
      refine s_skip rfl rfl rfl ?_
      refine s_skip rfl rfl rfl ?_
      refine s_skip rfl rfl rfl ?_
      refine s_skip rfl rfl rfl ?_
      refine s_do rfl rfl rfl (d_pick_t rfl rfl rfl) ?_
      refine s_end ?_
      refine k_true rfl ?_
      refine k_seq ?_
      refine s_region ?_
      refine s_do rfl rfl rfl (d_assign rfl rfl) ?_
      refine s_end ?_
      refine k_ret ?_
      refine doneL rfl [.bool false] ⟨rfl, trivial⟩ (v := .bool false) rfl ?_
      have X := ((Ext.refl No w).trans x1)
      have hok : ¬ OkN lf ks vs := fun ⟨p1, p2, p3, p4, p5⟩ => by
        first | omega | (have := p4 _ _ _ hx hy; simp_all; done) | (have := p5 _ _ _ hx0 (by rw [show k - 1 + 1 = k from by omega]; exact hx); omega) | (rcases p3 with p3 | p3 <;> first | omega | simp_all)
      exact ⟨by simp [errN, okB_f hok], X⟩
    · -- no: (8 : Int) < (ks.length : Int)
      refine s_do rfl rfl rfl (d_field rfl (k := 0) (r := 0) (by kernel_rfl) rfl rfl) ?_
      refine s_do rfl rfl rfl (d_load rfl rfl (by kernel_rfl) (here (B1.cel 0 rfl))) ?_
      refine s_do rfl rfl rfl (d_not rfl rfl) ?_
      refine s_do rfl rfl rfl (d_move rfl rfl) ?_
      refine s_part_b 22 rfl (fun h3 => ?_) (fun h3 => ?_)
      · -- yes: (!lf)
        refine s_do rfl rfl rfl (d_field rfl (k := 1) (r := 1) (by kernel_rfl) rfl rfl) ?_
        refine s_do rfl rfl rfl (d_load rfl rfl (by kernel_rfl) (here (B1.cel 1 rfl))) ?_
        refine s_do rfl rfl rfl (d_len rfl (z := 1) (by kernel_rfl) rfl) ?_
        refine s_do rfl rfl rfl (d_eql rfl rfl rfl) ?_
        refine s_do rfl rfl rfl (d_pick_t rfl rfl rfl) ?_
        refine s_do rfl rfl rfl (d_pick_f rfl rfl rfl) ?_
        refine s_end ?_
        refine k_dec rfl (fun h4 => ?_) (fun h4 => ?_)
        · -- yes: (ks.length : Int) = 0
          refine k_seq ?_
          refine s_region ?_
          refine s_do rfl rfl rfl (d_assign rfl rfl) ?_
          refine s_end ?_
          refine k_ret ?_
          refine doneL rfl [.bool false] ⟨rfl, trivial⟩ (v := .bool false) rfl ?_
          have X := ((Ext.refl No w).trans x1)
          have hok : ¬ OkN lf ks vs := fun ⟨p1, p2, p3, p4, p5⟩ => by
            first | omega | (have := p4 _ _ _ hx hy; simp_all; done) | (have := p5 _ _ _ hx0 (by rw [show k - 1 + 1 = k from by omega]; exact hx); omega) | (rcases p3 with p3 | p3 <;> first | omega | simp_all)
          exact ⟨by simp [errN, okB_f hok], X⟩
        · -- no: (ks.length : Int) = 0
          refine k_skip ?_
          refine k_seq ?_
          refine k_seq ?_
          refine s_region ?_
          refine s_do rfl rfl rfl (d_assign rfl rfl) ?_
          refine s_end ?_
          refine k_block ?_
          refine c_loop (σ := Nat) (fun k => [(3, .int .i64 (k : Int)), (1, .pointer (some ⟨b1, 0, none⟩))])
            (fun k wr => Ext No w1 wr ∧ (k ≤ ks.length ∧ (∀ (i : Nat) (x y : Int), i < k → ks[i]? = some x → vs[i]? = some y → fitsB x y = true) ∧ (∀ (i : Nat) (x y : Int), i + 1 < k → ks[i]? = some x → ks[i + 1]? = some y → x < y))) (fun k => ks.length - k) 0
            (fun _ hF => (hF.cons (hF.cons hF.nil 1 _ _ rfl rfl) 3 _ _ rfl (by go_num))) ⟨Ext.refl _ _, by omega, fun i x y h => by omega, fun i x y h => by omega⟩ ?_
          rintro k wr2 ⟨x2, hI⟩
          have m2 := x2.size
          obtain ⟨hkl, hfit, hup⟩ := hI
          refine k_seq ?_
          refine k_seq ?_
          refine s_region ?_
          refine s_do rfl rfl rfl (d_move rfl rfl) ?_
          refine s_do rfl rfl rfl (d_field rfl (k := 1) (r := 1) (by kernel_rfl) rfl rfl) ?_
          refine s_do rfl rfl rfl (d_load rfl rfl (by kernel_rfl) (here ((B1.ext0 x2).cel 1 rfl))) ?_
          refine s_do rfl rfl rfl (d_len rfl (z := 1) (by kernel_rfl) rfl) ?_
          refine s_do rfl rfl rfl (d_lss rfl rfl rfl) ?_
          refine s_end ?_
          refine k_dec rfl (fun h5 => ?_) (fun h5 => ?_)
          · -- yes: (k : Int) < (ks.length : Int)
            refine k_skip ?_
            refine k_seq ?_
            refine k_block ?_
            refine k_seq ?_
            refine q_region (Ext No wr2) (by kernel_rfl) (by kernel_rfl) ((Ext.refl _ _).drew) ?_
            refine q_do rfl rfl rfl (d_field rfl (k := 1) (r := 1) (by kernel_rfl) rfl rfl) ?_
            refine q_do rfl rfl rfl (d_load rfl rfl (by kernel_rfl) (fun _ hx => ((B1.ext0 x2).ext0 hx).cel 1 rfl)) ?_
            refine q_do rfl rfl rfl (d_move rfl rfl) ?_
            obtain ⟨x, hx⟩ : ∃ x, ks[k]? = some x := ⟨_, List.getElem?_eq_getElem (by omega)⟩
            have hat := hc _ _ hx
            refine q_do rfl rfl rfl (d_indexE rfl (z := 1) (j := k) (r := k) (by kernel_rfl) rfl rfl rfl (by omega) hat (by omega)) ?_
            refine q_do rfl rfl rfl (d_loadE rfl rfl (by kernel_rfl) (fun _ hx => (((hat.ext0 x1).ext0 x2).ext0 hx))) ?_
            refine q_do rfl rfl rfl (d_field rfl (k := 2) (r := 2) (by kernel_rfl) rfl rfl) ?_
            refine q_do rfl rfl rfl (d_load rfl rfl (by kernel_rfl) (fun _ hx => ((B1.ext0 x2).ext0 hx).cel 2 rfl)) ?_
            refine q_do rfl rfl rfl (d_move rfl rfl) ?_
            obtain ⟨y, hy⟩ : ∃ x, vs[k]? = some x := ⟨_, List.getElem?_eq_getElem (by omega)⟩
            have hbt := hd _ _ hy
            refine q_do rfl rfl rfl (d_indexE rfl (z := 1) (j := k) (r := k) (by kernel_rfl) rfl rfl rfl (by omega) hbt (by omega)) ?_
            refine q_do rfl rfl rfl (d_loadE rfl rfl (by kernel_rfl) (fun _ hx => (((hbt.ext0 x1).ext0 x2).ext0 hx))) ?_
            refine q_call rfl rfl rfl rfl rfl (fun w => Try.call29 _ w) (v := .bool (fitsB x y)) (fun _ hx => q_ok hx (rfits_c _ _ _)) ?_
            refine q_do rfl rfl rfl (d_assign rfl rfl) ?_
            refine q_end (fun w3 x3 => ?_)
            have m3 := x3.size
            refine k_seq ?_
            refine q_region (Ext No w3) (by kernel_rfl) (by kernel_rfl) ((Ext.refl _ _).drew) ?_
            refine q_do rfl rfl rfl (d_move rfl rfl) ?_
            refine q_do rfl rfl rfl (d_not rfl rfl) ?_
            refine q_do rfl rfl rfl (d_move rfl rfl) ?_
            refine q_part_b 49 rfl (fun h6 => ?_) (fun h6 => ?_)
            · -- yes: (!fitsB x y)
              refine q_skip rfl rfl rfl ?_
              refine q_skip rfl rfl rfl ?_
              refine q_skip rfl rfl rfl ?_
              refine q_skip rfl rfl rfl ?_
              refine q_skip rfl rfl rfl ?_
              refine q_skip rfl rfl rfl ?_
              refine q_skip rfl rfl rfl ?_
              refine q_skip rfl rfl rfl ?_
              refine q_skip rfl rfl rfl ?_
              refine q_skip rfl rfl rfl ?_
              refine q_skip rfl rfl rfl ?_
              refine q_skip rfl rfl rfl ?_
              refine q_skip rfl rfl rfl ?_
              refine q_skip rfl rfl rfl ?_
              refine q_skip rfl rfl rfl ?_
              refine q_skip rfl rfl rfl ?_
              refine q_do rfl rfl rfl (d_pick_t rfl rfl rfl) ?_
              refine q_end (fun w4 x4 => ?_)
              have m4 := x4.size
              refine k_true rfl ?_
              refine k_seq ?_
              refine s_region ?_
              refine s_do rfl rfl rfl (d_assign rfl rfl) ?_
              refine s_end ?_
              refine k_ret ?_
              refine doneL rfl [.bool false] ⟨rfl, trivial⟩ (v := .bool false) rfl ?_
              have X := (((((Ext.refl No w).trans x1).trans x2).trans x3).trans x4)
              have hok : ¬ OkN lf ks vs := fun ⟨p1, p2, p3, p4, p5⟩ => by
                first | omega | (have := p4 _ _ _ hx hy; simp_all; done) | (have := p5 _ _ _ hx0 (by rw [show k - 1 + 1 = k from by omega]; exact hx); omega) | (rcases p3 with p3 | p3 <;> first | omega | simp_all)
              exact ⟨by simp [errN, okB_f hok], X⟩
            · -- no: (!fitsB x y)
              refine q_do rfl rfl rfl (d_move rfl rfl) ?_
              refine q_do rfl rfl rfl (d_gtr rfl rfl rfl) ?_
              refine q_do rfl rfl rfl (d_move rfl rfl) ?_
              refine q_part 52 rfl (fun h7 => ?_) (fun h7 => ?_)
              · -- yes: (0 : Int) < (k : Int)
                refine q_do rfl rfl rfl (d_field rfl (k := 1) (r := 1) (by kernel_rfl) rfl rfl) ?_
                refine q_do rfl rfl rfl (d_load rfl rfl (by kernel_rfl) (fun _ hx => (((B1.ext0 x2).ext0 x3).ext0 hx).cel 1 rfl)) ?_
                refine q_do rfl rfl rfl (d_move rfl rfl) ?_
                refine q_do rfl rfl rfl (d_indexE rfl (z := 1) (j := k) (r := k) (by kernel_rfl) rfl rfl rfl (by omega) hat (by omega)) ?_
                refine q_do rfl rfl rfl (d_loadE rfl rfl (by kernel_rfl) (fun _ hx => ((((hat.ext0 x1).ext0 x2).ext0 x3).ext0 hx))) ?_
                refine q_do rfl rfl rfl (d_field rfl (k := 1) (r := 1) (by kernel_rfl) rfl rfl) ?_
                refine q_do rfl rfl rfl (d_load rfl rfl (by kernel_rfl) (fun _ hx => (((B1.ext0 x2).ext0 x3).ext0 hx).cel 1 rfl)) ?_
                refine q_do rfl rfl rfl (d_move rfl rfl) ?_
                refine q_do rfl rfl rfl (d_sub64 rfl rfl rfl (r := (k : Int) - 1) (by omega) (by omega)) ?_
                obtain ⟨x0, hx0⟩ : ∃ x, ks[k - 1]? = some x := ⟨_, List.getElem?_eq_getElem (by omega)⟩
                have hat0 := hc _ _ hx0
                refine q_do rfl rfl rfl (d_indexE rfl (z := 1) (j := (k - 1)) (r := (k - 1)) (by kernel_rfl) rfl rfl (by omega) (by omega) hat0 (by omega)) ?_
                refine q_do rfl rfl rfl (d_loadE rfl rfl (by kernel_rfl) (fun _ hx => ((((hat0.ext0 x1).ext0 x2).ext0 x3).ext0 hx))) ?_
                refine q_do rfl rfl rfl (d_leq rfl rfl rfl) ?_
                refine q_do rfl rfl rfl (d_pick_t rfl rfl rfl) ?_
                refine q_do rfl rfl rfl (d_pick_f rfl rfl rfl) ?_
                refine q_end (fun w5 x5 => ?_)
                have m5 := x5.size
                refine k_dec rfl (fun h8 => ?_) (fun h8 => ?_)
                · -- yes: (x : Int) ≤ x0
                  refine k_seq ?_
                  refine s_region ?_
                  refine s_do rfl rfl rfl (d_assign rfl rfl) ?_
                  refine s_end ?_
                  refine k_ret ?_
                  refine doneL rfl [.bool false] ⟨rfl, trivial⟩ (v := .bool false) rfl ?_
                  have X := (((((Ext.refl No w).trans x1).trans x2).trans x3).trans x5)
                  have hok : ¬ OkN lf ks vs := fun ⟨p1, p2, p3, p4, p5⟩ => by
                    first | omega | (have := p4 _ _ _ hx hy; simp_all; done) | (have := p5 _ _ _ hx0 (by rw [show k - 1 + 1 = k from by omega]; exact hx); omega) | (rcases p3 with p3 | p3 <;> first | omega | simp_all)
                  exact ⟨by simp [errN, okB_f hok], X⟩
                · -- no: (x : Int) ≤ x0
                  refine k_skip ?_
                  refine s_region ?_
                  refine s_do rfl rfl rfl (d_move rfl rfl) ?_
                  refine s_do rfl rfl rfl (d_add64 rfl rfl rfl (r := (k : Int) + 1) (by omega) (by omega)) ?_
                  refine s_do rfl rfl rfl (d_assign rfl rfl) ?_
                  refine s_end ?_
                  intro _ hF
                  refine ⟨(k + 1), (hF.cons (hF.cons hF.nil 1 _ _ rfl rfl) 3 _ _ rfl (by go_num)), ⟨((x2.trans x3).trans x5), ?_⟩, ?_⟩
                  · refine ⟨by omega, fun i p q hi hp hq => ?_, fun i p q hi hp hq => ?_⟩
                    · rcases Nat.lt_or_ge i k with h | h
                      · exact hfit i p q h hp hq
                      · obtain rfl : i = k := by omega
                        rw [hx] at hp; rw [hy] at hq; cases hp; cases hq; first | assumption | simp_all
                    · rcases Nat.lt_or_ge (i + 1) k with h | h
                      · exact hup i p q h hp hq
                      · obtain rfl : k = i + 1 := by omega
                        rw [hx] at hq; cases hq; first | omega | (rw [show i + 1 - 1 = i from rfl] at hx0; rw [hx0] at hp; cases hp; omega)
                  · omega
              · -- no: (0 : Int) < (k : Int)
                refine q_skip rfl rfl rfl ?_
                refine q_skip rfl rfl rfl ?_
                refine q_skip rfl rfl rfl ?_
                refine q_skip rfl rfl rfl ?_
                refine q_skip rfl rfl rfl ?_
                refine q_skip rfl rfl rfl ?_
                refine q_skip rfl rfl rfl ?_
                refine q_skip rfl rfl rfl ?_
                refine q_skip rfl rfl rfl ?_
                refine q_skip rfl rfl rfl ?_
                refine q_skip rfl rfl rfl ?_
                refine q_skip rfl rfl rfl ?_
                refine q_do rfl rfl rfl (d_pick_f rfl rfl rfl) ?_
                refine q_do rfl rfl rfl (d_pick_f rfl rfl rfl) ?_
                refine q_end (fun w6 x6 => ?_)
                have m6 := x6.size
                refine k_false rfl ?_
                refine k_skip ?_
                refine s_region ?_
                refine s_do rfl rfl rfl (d_move rfl rfl) ?_
                refine s_do rfl rfl rfl (d_add64 rfl rfl rfl (r := (k : Int) + 1) (by omega) (by omega)) ?_
                refine s_do rfl rfl rfl (d_assign rfl rfl) ?_
                refine s_end ?_
                intro _ hF
                refine ⟨(k + 1), (hF.cons (hF.cons hF.nil 1 _ _ rfl rfl) 3 _ _ rfl (by go_num)), ⟨((x2.trans x3).trans x6), ?_⟩, ?_⟩
                · refine ⟨by omega, fun i p q hi hp hq => ?_, fun i p q hi hp hq => ?_⟩
                  · rcases Nat.lt_or_ge i k with h | h
                    · exact hfit i p q h hp hq
                    · obtain rfl : i = k := by omega
                      rw [hx] at hp; rw [hy] at hq; cases hp; cases hq; first | assumption | simp_all
                  · rcases Nat.lt_or_ge (i + 1) k with h | h
                    · exact hup i p q h hp hq
                    · obtain rfl : k = i + 1 := by omega
                      rw [hx] at hq; cases hq; first | omega | (rw [show i + 1 - 1 = i from rfl] at hx0; rw [hx0] at hp; cases hp; omega)
                · omega
          · -- no: (k : Int) < (ks.length : Int)
            refine k_exit ?_
            refine k_here ?_
            refine k_seq ?_
            refine s_region ?_
            refine s_do rfl rfl rfl (d_assign rfl rfl) ?_
            refine s_end ?_
            refine k_ret ?_
            refine doneL rfl [.bool true] ⟨rfl, trivial⟩ (v := .bool true) rfl ?_
            have X := (((Ext.refl No w).trans x1).trans x2)
            have hok : OkN lf ks vs := ⟨by omega, by omega, by first | (right; omega) | (left; simp_all), fun i x y hp hq => hfit i x y (by have := (List.getElem?_eq_some_iff.1 hp).1; omega) hp hq, fun i x y hp hq => hup i x y (by have := (List.getElem?_eq_some_iff.1 hq).1; omega) hp hq⟩
            exact ⟨by simp [errN, okB_t hok], X⟩
      · -- no: (!lf)
        refine s_skip rfl rfl rfl ?_
        refine s_skip rfl rfl rfl ?_
        refine s_skip rfl rfl rfl ?_
        refine s_skip rfl rfl rfl ?_
        refine s_do rfl rfl rfl (d_pick_f rfl rfl rfl) ?_
        refine s_do rfl rfl rfl (d_pick_f rfl rfl rfl) ?_
        refine s_end ?_
        refine k_false rfl ?_
        refine k_skip ?_
        refine k_seq ?_
        refine k_seq ?_
        refine s_region ?_
        refine s_do rfl rfl rfl (d_assign rfl rfl) ?_
        refine s_end ?_
        refine k_block ?_
        refine c_loop (σ := Nat) (fun k => [(3, .int .i64 (k : Int)), (1, .pointer (some ⟨b1, 0, none⟩))])
          (fun k wr => Ext No w1 wr ∧ (k ≤ ks.length ∧ (∀ (i : Nat) (x y : Int), i < k → ks[i]? = some x → vs[i]? = some y → fitsB x y = true) ∧ (∀ (i : Nat) (x y : Int), i + 1 < k → ks[i]? = some x → ks[i + 1]? = some y → x < y))) (fun k => ks.length - k) 0
          (fun _ hF => (hF.cons (hF.cons hF.nil 1 _ _ rfl rfl) 3 _ _ rfl (by go_num))) ⟨Ext.refl _ _, by omega, fun i x y h => by omega, fun i x y h => by omega⟩ ?_
        rintro k wr7 ⟨x7, hI⟩
        have m7 := x7.size
        obtain ⟨hkl, hfit, hup⟩ := hI
        refine k_seq ?_
        refine k_seq ?_
        refine s_region ?_
        refine s_do rfl rfl rfl (d_move rfl rfl) ?_
        refine s_do rfl rfl rfl (d_field rfl (k := 1) (r := 1) (by kernel_rfl) rfl rfl) ?_
        refine s_do rfl rfl rfl (d_load rfl rfl (by kernel_rfl) (here ((B1.ext0 x7).cel 1 rfl))) ?_
        refine s_do rfl rfl rfl (d_len rfl (z := 1) (by kernel_rfl) rfl) ?_
        refine s_do rfl rfl rfl (d_lss rfl rfl rfl) ?_
        refine s_end ?_
        refine k_dec rfl (fun h9 => ?_) (fun h9 => ?_)
        · -- yes: (k : Int) < (ks.length : Int)
          refine k_skip ?_
          refine k_seq ?_
          refine k_block ?_
          refine k_seq ?_
          refine q_region (Ext No wr7) (by kernel_rfl) (by kernel_rfl) ((Ext.refl _ _).drew) ?_
          refine q_do rfl rfl rfl (d_field rfl (k := 1) (r := 1) (by kernel_rfl) rfl rfl) ?_
          refine q_do rfl rfl rfl (d_load rfl rfl (by kernel_rfl) (fun _ hx => ((B1.ext0 x7).ext0 hx).cel 1 rfl)) ?_
          refine q_do rfl rfl rfl (d_move rfl rfl) ?_
          obtain ⟨x, hx⟩ : ∃ x, ks[k]? = some x := ⟨_, List.getElem?_eq_getElem (by omega)⟩
          have hat := hc _ _ hx
          refine q_do rfl rfl rfl (d_indexE rfl (z := 1) (j := k) (r := k) (by kernel_rfl) rfl rfl rfl (by omega) hat (by omega)) ?_
          refine q_do rfl rfl rfl (d_loadE rfl rfl (by kernel_rfl) (fun _ hx => (((hat.ext0 x1).ext0 x7).ext0 hx))) ?_
          refine q_do rfl rfl rfl (d_field rfl (k := 2) (r := 2) (by kernel_rfl) rfl rfl) ?_
          refine q_do rfl rfl rfl (d_load rfl rfl (by kernel_rfl) (fun _ hx => ((B1.ext0 x7).ext0 hx).cel 2 rfl)) ?_
          refine q_do rfl rfl rfl (d_move rfl rfl) ?_
          obtain ⟨y, hy⟩ : ∃ x, vs[k]? = some x := ⟨_, List.getElem?_eq_getElem (by omega)⟩
          have hbt := hd _ _ hy
          refine q_do rfl rfl rfl (d_indexE rfl (z := 1) (j := k) (r := k) (by kernel_rfl) rfl rfl rfl (by omega) hbt (by omega)) ?_
          refine q_do rfl rfl rfl (d_loadE rfl rfl (by kernel_rfl) (fun _ hx => (((hbt.ext0 x1).ext0 x7).ext0 hx))) ?_
          refine q_call rfl rfl rfl rfl rfl (fun w => Try.call29 _ w) (v := .bool (fitsB x y)) (fun _ hx => q_ok hx (rfits_c _ _ _)) ?_
          refine q_do rfl rfl rfl (d_assign rfl rfl) ?_
          refine q_end (fun w8 x8 => ?_)
          have m8 := x8.size
          refine k_seq ?_
          refine q_region (Ext No w8) (by kernel_rfl) (by kernel_rfl) ((Ext.refl _ _).drew) ?_
          refine q_do rfl rfl rfl (d_move rfl rfl) ?_
          refine q_do rfl rfl rfl (d_not rfl rfl) ?_
          refine q_do rfl rfl rfl (d_move rfl rfl) ?_
          refine q_part_b 49 rfl (fun h10 => ?_) (fun h10 => ?_)
          · -- yes: (!fitsB x y)
            refine q_skip rfl rfl rfl ?_
            refine q_skip rfl rfl rfl ?_
            refine q_skip rfl rfl rfl ?_
            refine q_skip rfl rfl rfl ?_
            refine q_skip rfl rfl rfl ?_
            refine q_skip rfl rfl rfl ?_
            refine q_skip rfl rfl rfl ?_
            refine q_skip rfl rfl rfl ?_
            refine q_skip rfl rfl rfl ?_
            refine q_skip rfl rfl rfl ?_
            refine q_skip rfl rfl rfl ?_
            refine q_skip rfl rfl rfl ?_
            refine q_skip rfl rfl rfl ?_
            refine q_skip rfl rfl rfl ?_
            refine q_skip rfl rfl rfl ?_
            refine q_skip rfl rfl rfl ?_
            refine q_do rfl rfl rfl (d_pick_t rfl rfl rfl) ?_
            refine q_end (fun w9 x9 => ?_)
            have m9 := x9.size
            refine k_true rfl ?_
            refine k_seq ?_
            refine s_region ?_
            refine s_do rfl rfl rfl (d_assign rfl rfl) ?_
            refine s_end ?_
            refine k_ret ?_
            refine doneL rfl [.bool false] ⟨rfl, trivial⟩ (v := .bool false) rfl ?_
            have X := (((((Ext.refl No w).trans x1).trans x7).trans x8).trans x9)
            have hok : ¬ OkN lf ks vs := fun ⟨p1, p2, p3, p4, p5⟩ => by
              first | omega | (have := p4 _ _ _ hx hy; simp_all; done) | (have := p5 _ _ _ hx0 (by rw [show k - 1 + 1 = k from by omega]; exact hx); omega) | (rcases p3 with p3 | p3 <;> first | omega | simp_all)
            exact ⟨by simp [errN, okB_f hok], X⟩
          · -- no: (!fitsB x y)
            refine q_do rfl rfl rfl (d_move rfl rfl) ?_
            refine q_do rfl rfl rfl (d_gtr rfl rfl rfl) ?_
            refine q_do rfl rfl rfl (d_move rfl rfl) ?_
            refine q_part 52 rfl (fun h11 => ?_) (fun h11 => ?_)
            · -- yes: (0 : Int) < (k : Int)
              refine q_do rfl rfl rfl (d_field rfl (k := 1) (r := 1) (by kernel_rfl) rfl rfl) ?_
              refine q_do rfl rfl rfl (d_load rfl rfl (by kernel_rfl) (fun _ hx => (((B1.ext0 x7).ext0 x8).ext0 hx).cel 1 rfl)) ?_
              refine q_do rfl rfl rfl (d_move rfl rfl) ?_
              refine q_do rfl rfl rfl (d_indexE rfl (z := 1) (j := k) (r := k) (by kernel_rfl) rfl rfl rfl (by omega) hat (by omega)) ?_
              refine q_do rfl rfl rfl (d_loadE rfl rfl (by kernel_rfl) (fun _ hx => ((((hat.ext0 x1).ext0 x7).ext0 x8).ext0 hx))) ?_
              refine q_do rfl rfl rfl (d_field rfl (k := 1) (r := 1) (by kernel_rfl) rfl rfl) ?_
              refine q_do rfl rfl rfl (d_load rfl rfl (by kernel_rfl) (fun _ hx => (((B1.ext0 x7).ext0 x8).ext0 hx).cel 1 rfl)) ?_
              refine q_do rfl rfl rfl (d_move rfl rfl) ?_
              refine q_do rfl rfl rfl (d_sub64 rfl rfl rfl (r := (k : Int) - 1) (by omega) (by omega)) ?_
              obtain ⟨x0, hx0⟩ : ∃ x, ks[k - 1]? = some x := ⟨_, List.getElem?_eq_getElem (by omega)⟩
              have hat0 := hc _ _ hx0
              refine q_do rfl rfl rfl (d_indexE rfl (z := 1) (j := (k - 1)) (r := (k - 1)) (by kernel_rfl) rfl rfl (by omega) (by omega) hat0 (by omega)) ?_
              refine q_do rfl rfl rfl (d_loadE rfl rfl (by kernel_rfl) (fun _ hx => ((((hat0.ext0 x1).ext0 x7).ext0 x8).ext0 hx))) ?_
              refine q_do rfl rfl rfl (d_leq rfl rfl rfl) ?_
              refine q_do rfl rfl rfl (d_pick_t rfl rfl rfl) ?_
              refine q_do rfl rfl rfl (d_pick_f rfl rfl rfl) ?_
              refine q_end (fun w10 x10 => ?_)
              have m10 := x10.size
              refine k_dec rfl (fun h12 => ?_) (fun h12 => ?_)
              · -- yes: (x : Int) ≤ x0
                refine k_seq ?_
                refine s_region ?_
                refine s_do rfl rfl rfl (d_assign rfl rfl) ?_
                refine s_end ?_
                refine k_ret ?_
                refine doneL rfl [.bool false] ⟨rfl, trivial⟩ (v := .bool false) rfl ?_
                have X := (((((Ext.refl No w).trans x1).trans x7).trans x8).trans x10)
                have hok : ¬ OkN lf ks vs := fun ⟨p1, p2, p3, p4, p5⟩ => by
                  first | omega | (have := p4 _ _ _ hx hy; simp_all; done) | (have := p5 _ _ _ hx0 (by rw [show k - 1 + 1 = k from by omega]; exact hx); omega) | (rcases p3 with p3 | p3 <;> first | omega | simp_all)
                exact ⟨by simp [errN, okB_f hok], X⟩
              · -- no: (x : Int) ≤ x0
                refine k_skip ?_
                refine s_region ?_
                refine s_do rfl rfl rfl (d_move rfl rfl) ?_
                refine s_do rfl rfl rfl (d_add64 rfl rfl rfl (r := (k : Int) + 1) (by omega) (by omega)) ?_
                refine s_do rfl rfl rfl (d_assign rfl rfl) ?_
                refine s_end ?_
                intro _ hF
                refine ⟨(k + 1), (hF.cons (hF.cons hF.nil 1 _ _ rfl rfl) 3 _ _ rfl (by go_num)), ⟨((x7.trans x8).trans x10), ?_⟩, ?_⟩
                · refine ⟨by omega, fun i p q hi hp hq => ?_, fun i p q hi hp hq => ?_⟩
                  · rcases Nat.lt_or_ge i k with h | h
                    · exact hfit i p q h hp hq
                    · obtain rfl : i = k := by omega
                      rw [hx] at hp; rw [hy] at hq; cases hp; cases hq; first | assumption | simp_all
                  · rcases Nat.lt_or_ge (i + 1) k with h | h
                    · exact hup i p q h hp hq
                    · obtain rfl : k = i + 1 := by omega
                      rw [hx] at hq; cases hq; first | omega | (rw [show i + 1 - 1 = i from rfl] at hx0; rw [hx0] at hp; cases hp; omega)
                · omega
            · -- no: (0 : Int) < (k : Int)
              refine q_skip rfl rfl rfl ?_
              refine q_skip rfl rfl rfl ?_
              refine q_skip rfl rfl rfl ?_
              refine q_skip rfl rfl rfl ?_
              refine q_skip rfl rfl rfl ?_
              refine q_skip rfl rfl rfl ?_
              refine q_skip rfl rfl rfl ?_
              refine q_skip rfl rfl rfl ?_
              refine q_skip rfl rfl rfl ?_
              refine q_skip rfl rfl rfl ?_
              refine q_skip rfl rfl rfl ?_
              refine q_skip rfl rfl rfl ?_
              refine q_do rfl rfl rfl (d_pick_f rfl rfl rfl) ?_
              refine q_do rfl rfl rfl (d_pick_f rfl rfl rfl) ?_
              refine q_end (fun w11 x11 => ?_)
              have m11 := x11.size
              refine k_false rfl ?_
              refine k_skip ?_
              refine s_region ?_
              refine s_do rfl rfl rfl (d_move rfl rfl) ?_
              refine s_do rfl rfl rfl (d_add64 rfl rfl rfl (r := (k : Int) + 1) (by omega) (by omega)) ?_
              refine s_do rfl rfl rfl (d_assign rfl rfl) ?_
              refine s_end ?_
              intro _ hF
              refine ⟨(k + 1), (hF.cons (hF.cons hF.nil 1 _ _ rfl rfl) 3 _ _ rfl (by go_num)), ⟨((x7.trans x8).trans x11), ?_⟩, ?_⟩
              · refine ⟨by omega, fun i p q hi hp hq => ?_, fun i p q hi hp hq => ?_⟩
                · rcases Nat.lt_or_ge i k with h | h
                  · exact hfit i p q h hp hq
                  · obtain rfl : i = k := by omega
                    rw [hx] at hp; rw [hy] at hq; cases hp; cases hq; first | assumption | simp_all
                · rcases Nat.lt_or_ge (i + 1) k with h | h
                  · exact hup i p q h hp hq
                  · obtain rfl : k = i + 1 := by omega
                    rw [hx] at hq; cases hq; first | omega | (rw [show i + 1 - 1 = i from rfl] at hx0; rw [hx0] at hp; cases hp; omega)
              · omega
        · -- no: (k : Int) < (ks.length : Int)
          refine k_exit ?_
          refine k_here ?_
          refine k_seq ?_
          refine s_region ?_
          refine s_do rfl rfl rfl (d_assign rfl rfl) ?_
          refine s_end ?_
          refine k_ret ?_
          refine doneL rfl [.bool true] ⟨rfl, trivial⟩ (v := .bool true) rfl ?_
          have X := (((Ext.refl No w).trans x1).trans x7)
          have hok : OkN lf ks vs := ⟨by omega, by omega, by first | (right; omega) | (left; simp_all), fun i x y hp hq => hfit i x y (by have := (List.getElem?_eq_some_iff.1 hp).1; omega) hp hq, fun i x y hp hq => hup i x y (by have := (List.getElem?_eq_some_iff.1 hq).1; omega) hp hq⟩
          exact ⟨by simp [errN, okB_t hok], X⟩
end Go.Proofs.Yteehoppklgcggaa
