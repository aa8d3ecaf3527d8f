/-
  Walks of small functions: codec, disk. No condition.
-/
import Derived.Test.YtanejicgmgpjcaaGreatDoorRows
import Derived.Test.YtanejicgmgpjcaaGreatDoorCoreT
import Derived.IntWalk
set_option maxRecDepth 100000
namespace Go.Proofs.YtanejicgmgpjcaaGreatDoor
open Go.RowKit
theorem in_c (x m : Int) : Cn Tryz.prog 47 [.int .i64 x, .int .i64 m] [] (fun v Γ => v = .bool (decide (0 ≤ x ∧ x ≤ m)) ∧ Γ = []) := by
  intro z R w H'
  have H : Sep z (R) w := H'
  clear H'
  refine enter Tryz.func47 rfl 12 Tryz.ntmps47 rfl ?_
  refine k_seq ?_
  refine s_region ?_
  refine s_do rfl rfl rfl (d_assign rfl rfl) ?_
  refine s_end ?_
  refine k_seq ?_
  refine s_region ?_
  refine s_do rfl rfl rfl (d_move rfl rfl) ?_
  refine s_do rfl rfl rfl (d_geq rfl rfl rfl) ?_
  refine s_do rfl rfl rfl (d_move rfl rfl) ?_
  refine s_part 7 rfl (fun h1 => ?_) (fun h1 => ?_)
  · -- yes: (0 : Int) ≤ x
    refine s_do rfl rfl rfl (d_move rfl rfl) ?_
    refine s_do rfl rfl rfl (d_move rfl rfl) ?_
    refine s_do rfl rfl rfl (d_leq rfl rfl rfl) ?_
    refine s_do rfl rfl rfl (d_pick_t rfl rfl rfl) ?_
    refine s_do rfl rfl rfl (d_assign rfl rfl) ?_
    refine s_end ?_
    refine k_ret ?_
    refine doneL rfl [.bool (decide ((x : Int) ≤ m))] ⟨rfl, trivial⟩ (v := .bool (decide ((x : Int) ≤ m))) rfl ?_
    exact ⟨_, ⟨congrArg Value.bool (by rw [Bool.eq_iff_iff]; simp <;> omega), rfl⟩, H⟩
  · -- no: (0 : Int) ≤ x
    refine s_skip rfl rfl rfl ?_
    refine s_skip rfl rfl rfl ?_
    refine s_skip rfl rfl rfl ?_
    refine s_do rfl rfl rfl (d_pick_f rfl rfl rfl) ?_
    refine s_do rfl rfl rfl (d_assign rfl rfl) ?_
    refine s_end ?_
    refine k_ret ?_
    refine doneL rfl [.bool false] ⟨rfl, trivial⟩ (v := .bool false) rfl ?_
    exact ⟨_, ⟨congrArg Value.bool (by rw [Bool.eq_iff_iff]; simp <;> omega), rfl⟩, H⟩

theorem size_c (pd bd m N : Nat) (f0 f1 f2 f3 lf : Int) (cut : Bool) (hN : N ≤ 9223372036854775807) : Cn Tryz.prog 22 [.pointer (some ⟨pd, 0, none⟩)] [blk pd [.slice (some ⟨bd, 0, none⟩) N N, .map (some m), .int .i64 f0, .int .i64 f1, .int .i64 f2, .int .i64 f3, .bool cut, .int .i64 lf] 74] (fun v Γ => v = .int .i64 ((N : Int) / 256) ∧ Γ = [blk pd [.slice (some ⟨bd, 0, none⟩) N N, .map (some m), .int .i64 f0, .int .i64 f1, .int .i64 f2, .int .i64 f3, .bool cut, .int .i64 lf] 74]) := by
  intro z R w H'
  have H : Sep z (blk pd [.slice (some ⟨bd, 0, none⟩) N N, .map (some m), .int .i64 f0, .int .i64 f1, .int .i64 f2, .int .i64 f3, .bool cut, .int .i64 lf] 74 :: R) w := H'
  clear H'
  refine enter Tryz.func22 rfl 9 Tryz.ntmps22 rfl ?_
  refine k_seq ?_
  refine s_region ?_
  refine s_do rfl rfl rfl (d_assign rfl rfl) ?_
  refine s_end ?_
  refine k_seq ?_
  refine s_region ?_
  refine s_do rfl rfl rfl (d_move rfl rfl) ?_
  refine s_do rfl rfl rfl (d_nilCheck rfl rfl) ?_
  refine s_do rfl rfl rfl (d_field rfl (k := 0) (r := 0) (by kernel_rfl) rfl rfl) ?_
  refine s_do rfl rfl rfl (d_load rfl rfl (by kernel_rfl) (here (H.cel 0 rfl 0 rfl))) ?_
  refine s_do rfl rfl rfl (d_len rfl (z := 1) (by kernel_rfl) rfl) ?_
  refine s_do rfl rfl rfl (d_quo64 rfl rfl rfl (r := (N : Int) / 256) (by omega) (by omega) (by omega) (by omega)) ?_
  refine s_do rfl rfl rfl (d_assign rfl rfl) ?_
  refine s_end ?_
  refine k_ret ?_
  refine doneL rfl [.int .i64 ((N : Int) / 256)] ⟨rfl, trivial⟩ (v := .int .i64 ((N : Int) / 256)) rfl ?_
  exact ⟨_, ⟨rfl, rfl⟩, H⟩

theorem there_c (pd bd m N : Nat) (f0 f1 f2 f3 lf : Int) (cut : Bool) (x k : Int) (hN : N ≤ 9223372036854775807) : Cn Tryz.prog 37 [.pointer (some ⟨pd, 0, none⟩), .int .i64 x, .int .i64 k] [blk pd [.slice (some ⟨bd, 0, none⟩) N N, .map (some m), .int .i64 f0, .int .i64 f1, .int .i64 f2, .int .i64 f3, .bool cut, .int .i64 lf] 74] (fun v Γ => v = .bool (decide (0 ≤ x ∧ 0 < k ∧ x < (N : Int) / 256 ∧ k ≤ (N : Int) / 256 - x)) ∧ Γ = [blk pd [.slice (some ⟨bd, 0, none⟩) N N, .map (some m), .int .i64 f0, .int .i64 f1, .int .i64 f2, .int .i64 f3, .bool cut, .int .i64 lf] 74]) := by
  intro z R w H'
  have H : Sep z (blk pd [.slice (some ⟨bd, 0, none⟩) N N, .map (some m), .int .i64 f0, .int .i64 f1, .int .i64 f2, .int .i64 f3, .bool cut, .int .i64 lf] 74 :: R) w := H'
  clear H'
  refine enter Tryz.func37 rfl 27 Tryz.ntmps37 rfl ?_
  refine k_seq ?_
  refine s_region ?_
  refine s_do rfl rfl rfl (d_assign rfl rfl) ?_
  refine s_end ?_
  refine k_seq ?_
  refine s_region ?_
  refine s_do rfl rfl rfl (d_move rfl rfl) ?_
  refine s_do rfl rfl rfl (d_geq rfl rfl rfl) ?_
  refine s_do rfl rfl rfl (d_move rfl rfl) ?_
  refine s_part 9 rfl (fun h1 => ?_) (fun h1 => ?_)
  · -- yes: (0 : Int) ≤ x
    refine s_do rfl rfl rfl (d_move rfl rfl) ?_
    refine s_do rfl rfl rfl (d_gtr rfl rfl rfl) ?_
    refine s_do rfl rfl rfl (d_pick_t rfl rfl rfl) ?_
    refine s_do rfl rfl rfl (d_move rfl rfl) ?_
    refine s_part 13 rfl (fun h2 => ?_) (fun h2 => ?_)
    · -- yes: (0 : Int) < k
      refine s_do rfl rfl rfl (d_move rfl rfl) ?_
      refine s_do rfl rfl rfl (d_move rfl rfl) ?_
      refine s_callC rfl rfl rfl rfl rfl (fun w => Tryz.call22 _ w) (size_c _ _ _ _ _ _ _ _ _ _ (by omega)) H 1 [0] rfl rfl ?_
      rintro _ w _ ⟨rfl, rfl⟩ H'
      have H : Sep z (blk pd [.slice (some ⟨bd, 0, none⟩) N N, .map (some m), .int .i64 f0, .int .i64 f1, .int .i64 f2, .int .i64 f3, .bool cut, .int .i64 lf] 74 :: R) w := H'
      clear H'
      refine s_do rfl rfl rfl (d_lss rfl rfl rfl) ?_
      refine s_do rfl rfl rfl (d_pick_t rfl rfl rfl) ?_
      refine s_do rfl rfl rfl (d_move rfl rfl) ?_
      refine s_part 19 rfl (fun h3 => ?_) (fun h3 => ?_)
      · -- yes: (x : Int) < ((N : Int) / 256)
        refine s_do rfl rfl rfl (d_move rfl rfl) ?_
        refine s_do rfl rfl rfl (d_move rfl rfl) ?_
        refine s_callC rfl rfl rfl rfl rfl (fun w => Tryz.call22 _ w) (size_c _ _ _ _ _ _ _ _ _ _ (by omega)) H 1 [0] rfl rfl ?_
        rintro _ w _ ⟨rfl, rfl⟩ H'
        have H : Sep z (blk pd [.slice (some ⟨bd, 0, none⟩) N N, .map (some m), .int .i64 f0, .int .i64 f1, .int .i64 f2, .int .i64 f3, .bool cut, .int .i64 lf] 74 :: R) w := H'
        clear H'
        refine s_do rfl rfl rfl (d_move rfl rfl) ?_
        refine s_do rfl rfl rfl (d_sub64 rfl rfl rfl (r := ((N : Int) / 256) - x) (by omega) (by omega)) ?_
        refine s_do rfl rfl rfl (d_leq rfl rfl rfl) ?_
        refine s_do rfl rfl rfl (d_pick_t rfl rfl rfl) ?_
        refine s_do rfl rfl rfl (d_assign rfl rfl) ?_
        refine s_end ?_
        refine k_ret ?_
        refine doneL rfl [.bool (decide ((k : Int) ≤ (((N : Int) / 256) - x)))] ⟨rfl, trivial⟩ (v := .bool (decide ((k : Int) ≤ (((N : Int) / 256) - x)))) rfl ?_
        exact ⟨_, ⟨congrArg Value.bool (by first | (rw [eq_comm, decide_eq_false_iff_not]; omega) | (rw [Bool.eq_iff_iff]; simp <;> omega)), rfl⟩, H⟩
      · -- no: (x : Int) < ((N : Int) / 256)
        refine s_skip rfl rfl rfl ?_
        refine s_skip rfl rfl rfl ?_
        refine s_skip rfl rfl rfl ?_
        refine s_skip rfl rfl rfl ?_
        refine s_skip rfl rfl rfl ?_
        refine s_skip rfl rfl rfl ?_
        refine s_do rfl rfl rfl (d_pick_f rfl rfl rfl) ?_
        refine s_do rfl rfl rfl (d_assign rfl rfl) ?_
        refine s_end ?_
        refine k_ret ?_
        refine doneL rfl [.bool false] ⟨rfl, trivial⟩ (v := .bool false) rfl ?_
        exact ⟨_, ⟨congrArg Value.bool (by first | (rw [eq_comm, decide_eq_false_iff_not]; omega) | (rw [Bool.eq_iff_iff]; simp <;> omega)), rfl⟩, H⟩
    · -- no: (0 : Int) < k
      refine s_skip rfl rfl rfl ?_
      refine s_skip rfl rfl rfl ?_
      refine s_skip rfl rfl rfl ?_
      refine s_skip rfl rfl rfl ?_
      refine s_do rfl rfl rfl (d_pick_f rfl rfl rfl) ?_
      refine s_do rfl rfl rfl (d_move rfl rfl) ?_
      refine s_skip rfl rfl rfl ?_
      refine s_skip rfl rfl rfl ?_
      refine s_skip rfl rfl rfl ?_
      refine s_skip rfl rfl rfl ?_
      refine s_skip rfl rfl rfl ?_
      refine s_skip rfl rfl rfl ?_
      refine s_do rfl rfl rfl (d_pick_f rfl rfl rfl) ?_
      refine s_do rfl rfl rfl (d_assign rfl rfl) ?_
      refine s_end ?_
      refine k_ret ?_
      refine doneL rfl [.bool false] ⟨rfl, trivial⟩ (v := .bool false) rfl ?_
      exact ⟨_, ⟨congrArg Value.bool (by first | (rw [eq_comm, decide_eq_false_iff_not]; omega) | (rw [Bool.eq_iff_iff]; simp <;> omega)), rfl⟩, H⟩
  · -- no: (0 : Int) ≤ x
    refine s_skip rfl rfl rfl ?_
    refine s_skip rfl rfl rfl ?_
    refine s_do rfl rfl rfl (d_pick_f rfl rfl rfl) ?_
    refine s_do rfl rfl rfl (d_move rfl rfl) ?_
    refine s_skip rfl rfl rfl ?_
    refine s_skip rfl rfl rfl ?_
    refine s_skip rfl rfl rfl ?_
    refine s_skip rfl rfl rfl ?_
    refine s_do rfl rfl rfl (d_pick_f rfl rfl rfl) ?_
    refine s_do rfl rfl rfl (d_move rfl rfl) ?_
    refine s_skip rfl rfl rfl ?_
    refine s_skip rfl rfl rfl ?_
    refine s_skip rfl rfl rfl ?_
    refine s_skip rfl rfl rfl ?_
    refine s_skip rfl rfl rfl ?_
    refine s_skip rfl rfl rfl ?_
    refine s_do rfl rfl rfl (d_pick_f rfl rfl rfl) ?_
    refine s_do rfl rfl rfl (d_assign rfl rfl) ?_
    refine s_end ?_
    refine k_ret ?_
    refine doneL rfl [.bool false] ⟨rfl, trivial⟩ (v := .bool false) rfl ?_
    exact ⟨_, ⟨congrArg Value.bool (by first | (rw [eq_comm, decide_eq_false_iff_not]; omega) | (rw [Bool.eq_iff_iff]; simp <;> omega)), rfl⟩, H⟩

theorem down_c (pd bd m N : Nat) (f0 f1 f2 f3 lf : Int) (cut : Bool) : Cn Tryz.prog 29 [.pointer (some ⟨pd, 0, none⟩)] [blk pd [.slice (some ⟨bd, 0, none⟩) N N, .map (some m), .int .i64 f0, .int .i64 f1, .int .i64 f2, .int .i64 f3, .bool cut, .int .i64 lf] 74] (fun v Γ => v = .bool (cut && decide (lf = 0)) ∧ Γ = [blk pd [.slice (some ⟨bd, 0, none⟩) N N, .map (some m), .int .i64 f0, .int .i64 f1, .int .i64 f2, .int .i64 f3, .bool cut, .int .i64 lf] 74]) := by
  intro z R w H'
  have H : Sep z (blk pd [.slice (some ⟨bd, 0, none⟩) N N, .map (some m), .int .i64 f0, .int .i64 f1, .int .i64 f2, .int .i64 f3, .bool cut, .int .i64 lf] 74 :: R) w := H'
  clear H'
  refine enter Tryz.func29 rfl 14 Tryz.ntmps29 rfl ?_
  refine k_seq ?_
  refine s_region ?_
  refine s_do rfl rfl rfl (d_assign rfl rfl) ?_
  refine s_end ?_
  refine k_seq ?_
  refine s_region ?_
  refine s_do rfl rfl rfl (d_move rfl rfl) ?_
  refine s_do rfl rfl rfl (d_nilCheck rfl rfl) ?_
  refine s_do rfl rfl rfl (d_field rfl (k := 6) (r := 6) (by kernel_rfl) rfl rfl) ?_
  refine s_do rfl rfl rfl (d_load rfl rfl (by kernel_rfl) (here (H.cel 0 rfl 6 rfl))) ?_
  refine s_do rfl rfl rfl (d_move rfl rfl) ?_
  refine s_part_b 7 rfl (fun h1 => ?_) (fun h1 => ?_)
  · -- yes: cut
    refine s_do rfl rfl rfl (d_move rfl rfl) ?_
    refine s_do rfl rfl rfl (d_nilCheck rfl rfl) ?_
    refine s_do rfl rfl rfl (d_field rfl (k := 7) (r := 7) (by kernel_rfl) rfl rfl) ?_
    refine s_do rfl rfl rfl (d_load rfl rfl (by kernel_rfl) (here (H.cel 0 rfl 7 rfl))) ?_
    refine s_do rfl rfl rfl (d_eql rfl rfl rfl) ?_
    refine s_do rfl rfl rfl (d_pick_t rfl rfl rfl) ?_
    refine s_do rfl rfl rfl (d_assign rfl rfl) ?_
    refine s_end ?_
    refine k_ret ?_
    refine doneL rfl [.bool (decide ((lf : Int) = 0))] ⟨rfl, trivial⟩ (v := .bool (decide ((lf : Int) = 0))) rfl ?_
    exact ⟨_, ⟨congrArg Value.bool (by simp_all), rfl⟩, H⟩
  · -- no: cut
    refine s_skip rfl rfl rfl ?_
    refine s_skip rfl rfl rfl ?_
    refine s_skip rfl rfl rfl ?_
    refine s_skip rfl rfl rfl ?_
    refine s_skip rfl rfl rfl ?_
    refine s_do rfl rfl rfl (d_pick_f rfl rfl rfl) ?_
    refine s_do rfl rfl rfl (d_assign rfl rfl) ?_
    refine s_end ?_
    refine k_ret ?_
    refine doneL rfl [.bool false] ⟨rfl, trivial⟩ (v := .bool false) rfl ?_
    exact ⟨_, ⟨congrArg Value.bool (by simp_all), rfl⟩, H⟩

theorem fails1_c (pd bd m N : Nat) (f0 f1 f2 f3 lf : Int) (cut : Bool) (wf1 : 0 ≤ f1 ∧ f1 ≤ 9223372036854775807) : Cn Tryz.prog 28 [.pointer (some ⟨pd, 0, none⟩), .int .i64 1] [blk pd [.slice (some ⟨bd, 0, none⟩) N N, .map (some m), .int .i64 f0, .int .i64 f1, .int .i64 f2, .int .i64 f3, .bool cut, .int .i64 lf] 74] (fun v Γ => v = .bool (decide (f1 = 1)) ∧ Γ = [blk pd [.slice (some ⟨bd, 0, none⟩) N N, .map (some m), .int .i64 f0, .int .i64 (if f1 = 0 then 0 else f1 - 1), .int .i64 f2, .int .i64 f3, .bool cut, .int .i64 lf] 74]) := by
  intro z R w H'
  have H : Sep z (blk pd [.slice (some ⟨bd, 0, none⟩) N N, .map (some m), .int .i64 f0, .int .i64 f1, .int .i64 f2, .int .i64 f3, .bool cut, .int .i64 lf] 74 :: R) w := H'
  clear H'
  refine enter Tryz.func28 rfl 29 Tryz.ntmps28 rfl ?_
  refine k_seq ?_
  refine s_region ?_
  refine s_do rfl rfl rfl (d_assign rfl rfl) ?_
  refine s_end ?_
  refine k_seq ?_
  refine k_seq ?_
  refine s_region ?_
  refine s_do rfl rfl rfl (d_move rfl rfl) ?_
  refine s_do rfl rfl rfl (d_move rfl rfl) ?_
  refine s_do rfl rfl rfl (d_nilCheck rfl rfl) ?_
  refine s_do rfl rfl rfl (d_field rfl (k := 2) (r := 2) (by kernel_rfl) rfl rfl) ?_
  refine s_do rfl rfl rfl (d_indexA (l := 4) rfl (z := 1) (j := 1) (r := 3) (by kernel_rfl) rfl rfl rfl (by omega) (by omega)) ?_
  refine s_do rfl rfl rfl (d_load rfl rfl (by kernel_rfl) (here (H.cel 0 rfl 3 rfl))) ?_
  refine s_do rfl rfl rfl (d_eql rfl rfl rfl) ?_
  refine s_end ?_
  refine k_dec rfl (fun h1 => ?_) (fun h1 => ?_)
  · -- yes: (f1 : Int) = 0
    refine k_seq ?_
    refine s_region ?_
    refine s_do rfl rfl rfl (d_assign rfl rfl) ?_
    refine s_end ?_
    refine k_ret ?_
    refine doneL rfl [.bool false] ⟨rfl, trivial⟩ (v := .bool false) rfl ?_
    exact ⟨[blk pd [.slice (some ⟨bd, 0, none⟩) N N, .map (some m), .int .i64 f0, .int .i64 f1, .int .i64 f2, .int .i64 f3, .bool cut, .int .i64 lf] 74], ⟨congrArg Value.bool (by first | (rw [Bool.eq_iff_iff]; simp <;> omega) | (simp_all <;> omega)), by simp_all⟩, H⟩
  · -- no: (f1 : Int) = 0
    refine k_skip ?_
    refine k_seq ?_
    refine t_region 10 (by kernel_rfl) (by kernel_rfl) (fun w' x' _ => ?_)
    have H' := H.ext0 x'; clear x' H; revert H'; generalize w' = w; intro H'
    have H : Sep z (blk pd [.slice (some ⟨bd, 0, none⟩) N N, .map (some m), .int .i64 f0, .int .i64 f1, .int .i64 f2, .int .i64 f3, .bool cut, .int .i64 lf] 74 :: R) w := H'
    clear H'
    refine t_do rfl rfl rfl (d_move rfl rfl) ?_
    refine t_do rfl rfl rfl (d_move rfl rfl) ?_
    refine t_do rfl rfl rfl (d_nilCheck rfl rfl) ?_
    refine t_do rfl rfl rfl (d_field rfl (k := 2) (r := 2) (by kernel_rfl) rfl rfl) ?_
    refine t_do rfl rfl rfl (d_indexA (l := 4) rfl (z := 1) (j := 1) (r := 3) (by kernel_rfl) rfl rfl rfl (by omega) (by omega)) ?_
    refine t_do rfl rfl rfl (d_load rfl rfl (by kernel_rfl) (here (H.cel 0 rfl 3 rfl))) ?_
    refine t_do rfl rfl rfl (d_sub64 rfl rfl rfl (r := f1 - 1) (by omega) (by omega)) ?_
    refine t_do rfl rfl rfl (d_nilCheck rfl rfl) ?_
    refine t_do rfl rfl rfl (d_field rfl (k := 2) (r := 2) (by kernel_rfl) rfl rfl) ?_
    refine t_do rfl rfl rfl (d_indexA (l := 4) rfl (z := 1) (j := 1) (r := 3) (by kernel_rfl) rfl rfl rfl (by omega) (by omega)) ?_
    refine t_end ?_
    refine s_put rfl rfl (n_store 0 H rfl rfl rfl rfl (vs := [.int .i64 (f1 - 1)]) rfl (by simp [u8, u32, Value.oneCell']) (by kernel_rfl) (by simp) (out := [.slice (some ⟨bd, 0, none⟩) N N, .map (some m), .int .i64 f0, .int .i64 (f1 - 1), .int .i64 f2, .int .i64 f3, .bool cut, .int .i64 lf]) rfl) ?_
    rintro w H'
    have H : Sep z (blk pd [.slice (some ⟨bd, 0, none⟩) N N, .map (some m), .int .i64 f0, .int .i64 (f1 - 1), .int .i64 f2, .int .i64 f3, .bool cut, .int .i64 lf] 74 :: R) w := H'
    clear H'
    refine s_end ?_
    refine k_seq ?_
    refine s_region ?_
    refine s_do rfl rfl rfl (d_move rfl rfl) ?_
    refine s_do rfl rfl rfl (d_move rfl rfl) ?_
    refine s_do rfl rfl rfl (d_nilCheck rfl rfl) ?_
    refine s_do rfl rfl rfl (d_field rfl (k := 2) (r := 2) (by kernel_rfl) rfl rfl) ?_
    refine s_do rfl rfl rfl (d_indexA (l := 4) rfl (z := 1) (j := 1) (r := 3) (by kernel_rfl) rfl rfl rfl (by omega) (by omega)) ?_
    refine s_do rfl rfl rfl (d_load rfl rfl (by kernel_rfl) (here (H.cel 0 rfl 3 rfl))) ?_
    refine s_do rfl rfl rfl (d_eql rfl rfl rfl) ?_
    refine s_do rfl rfl rfl (d_assign rfl rfl) ?_
    refine s_end ?_
    refine k_ret ?_
    refine doneL rfl [.bool (decide ((f1 - 1 : Int) = 0))] ⟨rfl, trivial⟩ (v := .bool (decide ((f1 - 1 : Int) = 0))) rfl ?_
    exact ⟨[blk pd [.slice (some ⟨bd, 0, none⟩) N N, .map (some m), .int .i64 f0, .int .i64 (f1 - 1), .int .i64 f2, .int .i64 f3, .bool cut, .int .i64 lf] 74], ⟨congrArg Value.bool (by first | (rw [Bool.eq_iff_iff]; simp <;> omega) | (simp_all <;> omega)), by simp_all⟩, H⟩

theorem fails2_c (pd bd m N : Nat) (f0 f1 f2 f3 lf : Int) (cut : Bool) (wf2 : 0 ≤ f2 ∧ f2 ≤ 9223372036854775807) : Cn Tryz.prog 28 [.pointer (some ⟨pd, 0, none⟩), .int .i64 2] [blk pd [.slice (some ⟨bd, 0, none⟩) N N, .map (some m), .int .i64 f0, .int .i64 f1, .int .i64 f2, .int .i64 f3, .bool cut, .int .i64 lf] 74] (fun v Γ => v = .bool (decide (f2 = 1)) ∧ Γ = [blk pd [.slice (some ⟨bd, 0, none⟩) N N, .map (some m), .int .i64 f0, .int .i64 f1, .int .i64 (if f2 = 0 then 0 else f2 - 1), .int .i64 f3, .bool cut, .int .i64 lf] 74]) := by
  intro z R w H'
  have H : Sep z (blk pd [.slice (some ⟨bd, 0, none⟩) N N, .map (some m), .int .i64 f0, .int .i64 f1, .int .i64 f2, .int .i64 f3, .bool cut, .int .i64 lf] 74 :: R) w := H'
  clear H'
  refine enter Tryz.func28 rfl 29 Tryz.ntmps28 rfl ?_
  refine k_seq ?_
  refine s_region ?_
  refine s_do rfl rfl rfl (d_assign rfl rfl) ?_
  refine s_end ?_
  refine k_seq ?_
  refine k_seq ?_
  refine s_region ?_
  refine s_do rfl rfl rfl (d_move rfl rfl) ?_
  refine s_do rfl rfl rfl (d_move rfl rfl) ?_
  refine s_do rfl rfl rfl (d_nilCheck rfl rfl) ?_
  refine s_do rfl rfl rfl (d_field rfl (k := 2) (r := 2) (by kernel_rfl) rfl rfl) ?_
  refine s_do rfl rfl rfl (d_indexA (l := 4) rfl (z := 1) (j := 2) (r := 4) (by kernel_rfl) rfl rfl rfl (by omega) (by omega)) ?_
  refine s_do rfl rfl rfl (d_load rfl rfl (by kernel_rfl) (here (H.cel 0 rfl 4 rfl))) ?_
  refine s_do rfl rfl rfl (d_eql rfl rfl rfl) ?_
  refine s_end ?_
  refine k_dec rfl (fun h1 => ?_) (fun h1 => ?_)
  · -- yes: (f2 : Int) = 0
    refine k_seq ?_
    refine s_region ?_
    refine s_do rfl rfl rfl (d_assign rfl rfl) ?_
    refine s_end ?_
    refine k_ret ?_
    refine doneL rfl [.bool false] ⟨rfl, trivial⟩ (v := .bool false) rfl ?_
    exact ⟨[blk pd [.slice (some ⟨bd, 0, none⟩) N N, .map (some m), .int .i64 f0, .int .i64 f1, .int .i64 f2, .int .i64 f3, .bool cut, .int .i64 lf] 74], ⟨congrArg Value.bool (by first | (rw [Bool.eq_iff_iff]; simp <;> omega) | (simp_all <;> omega)), by simp_all⟩, H⟩
  · -- no: (f2 : Int) = 0
    refine k_skip ?_
    refine k_seq ?_
    refine t_region 10 (by kernel_rfl) (by kernel_rfl) (fun w' x' _ => ?_)
    have H' := H.ext0 x'; clear x' H; revert H'; generalize w' = w; intro H'
    have H : Sep z (blk pd [.slice (some ⟨bd, 0, none⟩) N N, .map (some m), .int .i64 f0, .int .i64 f1, .int .i64 f2, .int .i64 f3, .bool cut, .int .i64 lf] 74 :: R) w := H'
    clear H'
    refine t_do rfl rfl rfl (d_move rfl rfl) ?_
    refine t_do rfl rfl rfl (d_move rfl rfl) ?_
    refine t_do rfl rfl rfl (d_nilCheck rfl rfl) ?_
    refine t_do rfl rfl rfl (d_field rfl (k := 2) (r := 2) (by kernel_rfl) rfl rfl) ?_
    refine t_do rfl rfl rfl (d_indexA (l := 4) rfl (z := 1) (j := 2) (r := 4) (by kernel_rfl) rfl rfl rfl (by omega) (by omega)) ?_
    refine t_do rfl rfl rfl (d_load rfl rfl (by kernel_rfl) (here (H.cel 0 rfl 4 rfl))) ?_
    refine t_do rfl rfl rfl (d_sub64 rfl rfl rfl (r := f2 - 1) (by omega) (by omega)) ?_
    refine t_do rfl rfl rfl (d_nilCheck rfl rfl) ?_
    refine t_do rfl rfl rfl (d_field rfl (k := 2) (r := 2) (by kernel_rfl) rfl rfl) ?_
    refine t_do rfl rfl rfl (d_indexA (l := 4) rfl (z := 1) (j := 2) (r := 4) (by kernel_rfl) rfl rfl rfl (by omega) (by omega)) ?_
    refine t_end ?_
    refine s_put rfl rfl (n_store 0 H rfl rfl rfl rfl (vs := [.int .i64 (f2 - 1)]) rfl (by simp [u8, u32, Value.oneCell']) (by kernel_rfl) (by simp) (out := [.slice (some ⟨bd, 0, none⟩) N N, .map (some m), .int .i64 f0, .int .i64 f1, .int .i64 (f2 - 1), .int .i64 f3, .bool cut, .int .i64 lf]) rfl) ?_
    rintro w H'
    have H : Sep z (blk pd [.slice (some ⟨bd, 0, none⟩) N N, .map (some m), .int .i64 f0, .int .i64 f1, .int .i64 (f2 - 1), .int .i64 f3, .bool cut, .int .i64 lf] 74 :: R) w := H'
    clear H'
    refine s_end ?_
    refine k_seq ?_
    refine s_region ?_
    refine s_do rfl rfl rfl (d_move rfl rfl) ?_
    refine s_do rfl rfl rfl (d_move rfl rfl) ?_
    refine s_do rfl rfl rfl (d_nilCheck rfl rfl) ?_
    refine s_do rfl rfl rfl (d_field rfl (k := 2) (r := 2) (by kernel_rfl) rfl rfl) ?_
    refine s_do rfl rfl rfl (d_indexA (l := 4) rfl (z := 1) (j := 2) (r := 4) (by kernel_rfl) rfl rfl rfl (by omega) (by omega)) ?_
    refine s_do rfl rfl rfl (d_load rfl rfl (by kernel_rfl) (here (H.cel 0 rfl 4 rfl))) ?_
    refine s_do rfl rfl rfl (d_eql rfl rfl rfl) ?_
    refine s_do rfl rfl rfl (d_assign rfl rfl) ?_
    refine s_end ?_
    refine k_ret ?_
    refine doneL rfl [.bool (decide ((f2 - 1 : Int) = 0))] ⟨rfl, trivial⟩ (v := .bool (decide ((f2 - 1 : Int) = 0))) rfl ?_
    exact ⟨[blk pd [.slice (some ⟨bd, 0, none⟩) N N, .map (some m), .int .i64 f0, .int .i64 f1, .int .i64 (f2 - 1), .int .i64 f3, .bool cut, .int .i64 lf] 74], ⟨congrArg Value.bool (by first | (rw [Bool.eq_iff_iff]; simp <;> omega) | (simp_all <;> omega)), by simp_all⟩, H⟩

theorem fails3_c (pd bd m N : Nat) (f0 f1 f2 f3 lf : Int) (cut : Bool) (wf3 : 0 ≤ f3 ∧ f3 ≤ 9223372036854775807) : Cn Tryz.prog 28 [.pointer (some ⟨pd, 0, none⟩), .int .i64 3] [blk pd [.slice (some ⟨bd, 0, none⟩) N N, .map (some m), .int .i64 f0, .int .i64 f1, .int .i64 f2, .int .i64 f3, .bool cut, .int .i64 lf] 74] (fun v Γ => v = .bool (decide (f3 = 1)) ∧ Γ = [blk pd [.slice (some ⟨bd, 0, none⟩) N N, .map (some m), .int .i64 f0, .int .i64 f1, .int .i64 f2, .int .i64 (if f3 = 0 then 0 else f3 - 1), .bool cut, .int .i64 lf] 74]) := by
  intro z R w H'
  have H : Sep z (blk pd [.slice (some ⟨bd, 0, none⟩) N N, .map (some m), .int .i64 f0, .int .i64 f1, .int .i64 f2, .int .i64 f3, .bool cut, .int .i64 lf] 74 :: R) w := H'
  clear H'
  refine enter Tryz.func28 rfl 29 Tryz.ntmps28 rfl ?_
  refine k_seq ?_
  refine s_region ?_
  refine s_do rfl rfl rfl (d_assign rfl rfl) ?_
  refine s_end ?_
  refine k_seq ?_
  refine k_seq ?_
  refine s_region ?_
  refine s_do rfl rfl rfl (d_move rfl rfl) ?_
  refine s_do rfl rfl rfl (d_move rfl rfl) ?_
  refine s_do rfl rfl rfl (d_nilCheck rfl rfl) ?_
  refine s_do rfl rfl rfl (d_field rfl (k := 2) (r := 2) (by kernel_rfl) rfl rfl) ?_
  refine s_do rfl rfl rfl (d_indexA (l := 4) rfl (z := 1) (j := 3) (r := 5) (by kernel_rfl) rfl rfl rfl (by omega) (by omega)) ?_
  refine s_do rfl rfl rfl (d_load rfl rfl (by kernel_rfl) (here (H.cel 0 rfl 5 rfl))) ?_
  refine s_do rfl rfl rfl (d_eql rfl rfl rfl) ?_
  refine s_end ?_
  refine k_dec rfl (fun h1 => ?_) (fun h1 => ?_)
  · -- yes: (f3 : Int) = 0
    refine k_seq ?_
    refine s_region ?_
    refine s_do rfl rfl rfl (d_assign rfl rfl) ?_
    refine s_end ?_
    refine k_ret ?_
    refine doneL rfl [.bool false] ⟨rfl, trivial⟩ (v := .bool false) rfl ?_
    exact ⟨[blk pd [.slice (some ⟨bd, 0, none⟩) N N, .map (some m), .int .i64 f0, .int .i64 f1, .int .i64 f2, .int .i64 f3, .bool cut, .int .i64 lf] 74], ⟨congrArg Value.bool (by first | (rw [Bool.eq_iff_iff]; simp <;> omega) | (simp_all <;> omega)), by simp_all⟩, H⟩
  · -- no: (f3 : Int) = 0
    refine k_skip ?_
    refine k_seq ?_
    refine t_region 10 (by kernel_rfl) (by kernel_rfl) (fun w' x' _ => ?_)
    have H' := H.ext0 x'; clear x' H; revert H'; generalize w' = w; intro H'
    have H : Sep z (blk pd [.slice (some ⟨bd, 0, none⟩) N N, .map (some m), .int .i64 f0, .int .i64 f1, .int .i64 f2, .int .i64 f3, .bool cut, .int .i64 lf] 74 :: R) w := H'
    clear H'
    refine t_do rfl rfl rfl (d_move rfl rfl) ?_
    refine t_do rfl rfl rfl (d_move rfl rfl) ?_
    refine t_do rfl rfl rfl (d_nilCheck rfl rfl) ?_
    refine t_do rfl rfl rfl (d_field rfl (k := 2) (r := 2) (by kernel_rfl) rfl rfl) ?_
    refine t_do rfl rfl rfl (d_indexA (l := 4) rfl (z := 1) (j := 3) (r := 5) (by kernel_rfl) rfl rfl rfl (by omega) (by omega)) ?_
    refine t_do rfl rfl rfl (d_load rfl rfl (by kernel_rfl) (here (H.cel 0 rfl 5 rfl))) ?_
    refine t_do rfl rfl rfl (d_sub64 rfl rfl rfl (r := f3 - 1) (by omega) (by omega)) ?_
    refine t_do rfl rfl rfl (d_nilCheck rfl rfl) ?_
    refine t_do rfl rfl rfl (d_field rfl (k := 2) (r := 2) (by kernel_rfl) rfl rfl) ?_
    refine t_do rfl rfl rfl (d_indexA (l := 4) rfl (z := 1) (j := 3) (r := 5) (by kernel_rfl) rfl rfl rfl (by omega) (by omega)) ?_
    refine t_end ?_
    refine s_put rfl rfl (n_store 0 H rfl rfl rfl rfl (vs := [.int .i64 (f3 - 1)]) rfl (by simp [u8, u32, Value.oneCell']) (by kernel_rfl) (by simp) (out := [.slice (some ⟨bd, 0, none⟩) N N, .map (some m), .int .i64 f0, .int .i64 f1, .int .i64 f2, .int .i64 (f3 - 1), .bool cut, .int .i64 lf]) rfl) ?_
    rintro w H'
    have H : Sep z (blk pd [.slice (some ⟨bd, 0, none⟩) N N, .map (some m), .int .i64 f0, .int .i64 f1, .int .i64 f2, .int .i64 (f3 - 1), .bool cut, .int .i64 lf] 74 :: R) w := H'
    clear H'
    refine s_end ?_
    refine k_seq ?_
    refine s_region ?_
    refine s_do rfl rfl rfl (d_move rfl rfl) ?_
    refine s_do rfl rfl rfl (d_move rfl rfl) ?_
    refine s_do rfl rfl rfl (d_nilCheck rfl rfl) ?_
    refine s_do rfl rfl rfl (d_field rfl (k := 2) (r := 2) (by kernel_rfl) rfl rfl) ?_
    refine s_do rfl rfl rfl (d_indexA (l := 4) rfl (z := 1) (j := 3) (r := 5) (by kernel_rfl) rfl rfl rfl (by omega) (by omega)) ?_
    refine s_do rfl rfl rfl (d_load rfl rfl (by kernel_rfl) (here (H.cel 0 rfl 5 rfl))) ?_
    refine s_do rfl rfl rfl (d_eql rfl rfl rfl) ?_
    refine s_do rfl rfl rfl (d_assign rfl rfl) ?_
    refine s_end ?_
    refine k_ret ?_
    refine doneL rfl [.bool (decide ((f3 - 1 : Int) = 0))] ⟨rfl, trivial⟩ (v := .bool (decide ((f3 - 1 : Int) = 0))) rfl ?_
    exact ⟨[blk pd [.slice (some ⟨bd, 0, none⟩) N N, .map (some m), .int .i64 f0, .int .i64 f1, .int .i64 f2, .int .i64 (f3 - 1), .bool cut, .int .i64 lf] 74], ⟨congrArg Value.bool (by first | (rw [Bool.eq_iff_iff]; simp <;> omega) | (simp_all <;> omega)), by simp_all⟩, H⟩

theorem own_c (pd bd m N : Nat) (f0 f1 f2 f3 lf : Int) (cut : Bool) (i : Nat) (hN : N ≤ 9223372036854775807) (hi : (i + 1) * 256 ≤ N) : Cn Tryz.prog 30 [.pointer (some ⟨pd, 0, none⟩), .int .i64 (i : Int)] [blk pd [.slice (some ⟨bd, 0, none⟩) N N, .map (some m), .int .i64 f0, .int .i64 f1, .int .i64 f2, .int .i64 f3, .bool cut, .int .i64 lf] 74] (fun v Γ => v = .slice (some ⟨bd, i * 256, none⟩) 256 (N - i * 256) ∧ Γ = [blk pd [.slice (some ⟨bd, 0, none⟩) N N, .map (some m), .int .i64 f0, .int .i64 f1, .int .i64 f2, .int .i64 f3, .bool cut, .int .i64 lf] 74]) := by
  intro z R w H'
  have H : Sep z (blk pd [.slice (some ⟨bd, 0, none⟩) N N, .map (some m), .int .i64 f0, .int .i64 f1, .int .i64 f2, .int .i64 f3, .bool cut, .int .i64 lf] 74 :: R) w := H'
  clear H'
  refine enter Tryz.func30 rfl 15 Tryz.ntmps30 rfl ?_
  refine k_seq ?_
  refine s_region ?_
  refine s_do rfl rfl rfl (d_assign rfl rfl) ?_
  refine s_end ?_
  refine k_seq ?_
  refine s_region ?_
  refine s_do rfl rfl rfl (d_move rfl rfl) ?_
  refine s_do rfl rfl rfl (d_nilCheck rfl rfl) ?_
  refine s_do rfl rfl rfl (d_field rfl (k := 0) (r := 0) (by kernel_rfl) rfl rfl) ?_
  refine s_do rfl rfl rfl (d_load rfl rfl (by kernel_rfl) (here (H.cel 0 rfl 0 rfl))) ?_
  refine s_do rfl rfl rfl (d_move rfl rfl) ?_
  refine s_do rfl rfl rfl (d_mul64 rfl rfl rfl (r := (i : Int) * 256) (by omega) (by omega)) ?_
  refine s_do rfl rfl rfl (d_move rfl rfl) ?_
  refine s_do rfl rfl rfl (d_add64 rfl rfl rfl (r := (i : Int) + 1) (by omega) (by omega)) ?_
  refine s_do rfl rfl rfl (d_mul64 rfl rfl rfl (r := ((i : Int) + 1) * 256) (by omega) (by omega)) ?_
  refine s_do rfl rfl rfl (d_sliceC rfl (z := 1) (p := (i * 256)) (q := ((i + 1) * 256)) (o' := i * 256) (l' := 256) (c' := N - i * 256) (by kernel_rfl) rfl (.inr ⟨_, _, _, rfl, rfl, (by omega)⟩) (.inr ⟨_, _, _, rfl, rfl, (by omega)⟩) (by omega) (by omega) (by omega) (by omega) (by omega) (by omega)) ?_
  refine s_do rfl rfl rfl (d_assign rfl rfl) ?_
  refine s_end ?_
  refine k_ret ?_
  refine doneL rfl [.slice (some ⟨bd, (i * 256), none⟩) 256 (N - i * 256)] ⟨rfl, trivial⟩ (v := .slice (some ⟨bd, (i * 256), none⟩) 256 (N - i * 256)) rfl ?_
  exact ⟨_, ⟨rfl, rfl⟩, H⟩
end Go.Proofs.YtanejicgmgpjcaaGreatDoor
