/-
  Walks: superblocks, the log's small functions. No condition.
-/
import Derived.Test.YtanejicgmgpjcaaGreatDoorLogA
import Derived.Test.YtanejicgmgpjcaaGreatDoorLogM
set_option maxRecDepth 100000
namespace Go.Proofs.YtanejicgmgpjcaaGreatDoor
open Go.RowKit
theorem check_c (s : Sup) (n : Int) (hn : 0 ≤ n ∧ n ≤ 1152921504606846976) : Cn Tryz.prog 21 [.agg #[.int .i64 s.gen, .int .i64 s.epoch, .int .i64 s.pages, .int .i64 s.start, .int .i64 s.len, .int .i64 s.head, .int .i64 s.seq], .int .i64 n] [] (fun v Γ => v = .int .i64 (if s.Ok n then 0 else 1) ∧ Γ = []) := by
  intro z R w H'
  have H : Sep z (R) w := H'
  clear H'
  refine enter Tryz.func21 rfl 75 Tryz.ntmps21 rfl ?_
  refine k_seq ?_
  refine s_region ?_
  refine s_go rfl rfl rfl (n_box H rfl rfl (cs := [.int .i64 s.gen, .int .i64 s.epoch, .int .i64 s.pages, .int .i64 s.start, .int .i64 s.len, .int .i64 s.head, .int .i64 s.seq]) rfl) ?_
  rintro _ w ⟨b1, rfl, H'⟩
  have H : Sep z (blk b1 [.int .i64 s.gen, .int .i64 s.epoch, .int .i64 s.pages, .int .i64 s.start, .int .i64 s.len, .int .i64 s.head, .int .i64 s.seq] 33 :: R) w := H'
  clear H'
  refine s_do rfl rfl rfl (d_assign rfl rfl) ?_
  refine s_end ?_
  refine k_seq ?_
  refine k_seq ?_
  refine s_region ?_
  refine s_do rfl rfl rfl (d_field rfl (k := 0) (r := 0) (by kernel_rfl) rfl rfl) ?_
  refine s_do rfl rfl rfl (d_load rfl rfl (by kernel_rfl) (here (H.cel 0 rfl 0 rfl))) ?_
  refine s_do rfl rfl rfl (d_field rfl (k := 1) (r := 1) (by kernel_rfl) rfl rfl) ?_
  refine s_do rfl rfl rfl (d_load rfl rfl (by kernel_rfl) (here (H.cel 0 rfl 1 rfl))) ?_
  refine s_do rfl rfl rfl (d_field rfl (k := 2) (r := 2) (by kernel_rfl) rfl rfl) ?_
  refine s_do rfl rfl rfl (d_load rfl rfl (by kernel_rfl) (here (H.cel 0 rfl 2 rfl))) ?_
  refine s_do rfl rfl rfl (d_field rfl (k := 3) (r := 3) (by kernel_rfl) rfl rfl) ?_
  refine s_do rfl rfl rfl (d_load rfl rfl (by kernel_rfl) (here (H.cel 0 rfl 3 rfl))) ?_
  refine s_do rfl rfl rfl (d_field rfl (k := 4) (r := 4) (by kernel_rfl) rfl rfl) ?_
  refine s_do rfl rfl rfl (d_load rfl rfl (by kernel_rfl) (here (H.cel 0 rfl 4 rfl))) ?_
  refine s_do rfl rfl rfl (d_field rfl (k := 5) (r := 5) (by kernel_rfl) rfl rfl) ?_
  refine s_do rfl rfl rfl (d_load rfl rfl (by kernel_rfl) (here (H.cel 0 rfl 5 rfl))) ?_
  refine s_do rfl rfl rfl (d_field rfl (k := 6) (r := 6) (by kernel_rfl) rfl rfl) ?_
  refine s_do rfl rfl rfl (d_load rfl rfl (by kernel_rfl) (here (H.cel 0 rfl 6 rfl))) ?_
  refine s_do rfl rfl rfl (d_build rfl rfl (out := [.int .i64 s.gen, .int .i64 s.epoch, .int .i64 s.pages, .int .i64 s.start, .int .i64 s.len, .int .i64 s.head, .int .i64 s.seq]) (by kernel_rfl)) ?_
  refine s_do rfl rfl rfl (d_move rfl rfl) ?_
  refine s_end ?_
  refine k_block ?_
  refine c_loop (σ := Nat) (fun k => [(22, .int .i64 (k : Int)), (1, .int .i64 n), (2, .pointer (some ⟨b1, 0, none⟩)), (21, .agg #[.int .i64 s.gen, .int .i64 s.epoch, .int .i64 s.pages, .int .i64 s.start, .int .i64 s.len, .int .i64 s.head, .int .i64 s.seq])])
    (fun k w => Sep z (blk b1 [.int .i64 s.gen, .int .i64 s.epoch, .int .i64 s.pages, .int .i64 s.start, .int .i64 s.len, .int .i64 s.head, .int .i64 s.seq] 33 :: R) w ∧ (k ≤ 7 ∧ ∀ (j : Nat) (x : Int), j < k → s.list[j]? = some x → 0 ≤ x ∧ x ≤ 1099511627776)) (fun k => 7 - k) 0
    (fun _ hF => (hF.cons (hF.cons (hF.cons (hF.cons hF.nil 21 _ _ rfl rfl) 2 _ _ rfl rfl) 1 _ _ rfl rfl) 22 _ _ rfl (by go_num))) ⟨H, by omega, fun j x h => by omega⟩ ?_
  clear H; rintro k w ⟨H', hI⟩
  have H : Sep z (blk b1 [.int .i64 s.gen, .int .i64 s.epoch, .int .i64 s.pages, .int .i64 s.start, .int .i64 s.len, .int .i64 s.head, .int .i64 s.seq] 33 :: R) w := H'
  clear H'
  obtain ⟨hk7, hall⟩ := hI
  refine k_seq ?_
  refine s_region ?_
  refine s_do rfl rfl rfl (d_lss rfl rfl rfl) ?_
  refine s_end ?_
  refine k_seq ?_
  refine k_dec rfl (fun h1 => ?_) (fun h1 => ?_)
  · -- yes: (k : Int) < 7
    refine k_skip ?_
    refine k_seq ?_
    refine k_block ?_
    refine k_seq ?_
    refine s_region ?_
    obtain ⟨x, hx⟩ : ∃ x, s.list[k]? = some x := ⟨_, List.getElem?_eq_getElem (by simp [Sup.list]; omega)⟩
    refine s_do rfl rfl rfl (d_indexV rfl (by kernel_rfl) rfl (l := s.list) (j := k) rfl rfl rfl rfl hx) ?_
    refine s_do rfl rfl rfl (d_assign rfl rfl) ?_
    refine s_end ?_
    refine k_seq ?_
    refine s_region ?_
    refine s_do rfl rfl rfl (d_move rfl rfl) ?_
    refine s_do rfl rfl rfl (d_lss rfl rfl rfl) ?_
    refine s_do rfl rfl rfl (d_move rfl rfl) ?_
    refine s_part 27 rfl (fun h2 => ?_) (fun h2 => ?_)
    · -- yes: (x : Int) < 0
      refine s_skip rfl rfl rfl ?_
      refine s_skip rfl rfl rfl ?_
      refine s_do rfl rfl rfl (d_pick_t rfl rfl rfl) ?_
      refine s_end ?_
      refine k_true rfl ?_
      refine k_seq ?_
      refine s_region ?_
      refine s_do rfl rfl rfl (d_assign rfl rfl) ?_
      refine s_end ?_
      refine k_ret ?_
      refine doneL rfl [.int .i64 1] ⟨rfl, trivial⟩ (v := .int .i64 1) rfl ?_
      have hok : ¬ s.Ok n := fun ⟨q, q1, q2, q3, q4, q5, q6, q7⟩ => by
        first | omega | (have := q x (List.mem_of_getElem? hx); omega)
      exact ⟨[], ⟨congrArg (Value.int .i64) (by rw [if_neg hok]), rfl⟩, H.perm 1 [] rfl rfl⟩
    · -- no: (x : Int) < 0
      refine s_do rfl rfl rfl (d_move rfl rfl) ?_
      refine s_do rfl rfl rfl (d_gtr rfl rfl rfl) ?_
      refine s_do rfl rfl rfl (d_pick_f rfl rfl rfl) ?_
      refine s_end ?_
      refine k_dec rfl (fun h3 => ?_) (fun h3 => ?_)
      · -- yes: (1099511627776 : Int) < x
        refine k_seq ?_
        refine s_region ?_
        refine s_do rfl rfl rfl (d_assign rfl rfl) ?_
        refine s_end ?_
        refine k_ret ?_
        refine doneL rfl [.int .i64 1] ⟨rfl, trivial⟩ (v := .int .i64 1) rfl ?_
        have hok : ¬ s.Ok n := fun ⟨q, q1, q2, q3, q4, q5, q6, q7⟩ => by
          first | omega | (have := q x (List.mem_of_getElem? hx); omega)
        exact ⟨[], ⟨congrArg (Value.int .i64) (by rw [if_neg hok]), rfl⟩, H.perm 1 [] rfl rfl⟩
      · -- no: (1099511627776 : Int) < x
        refine k_skip ?_
        refine s_region ?_
        refine s_do rfl rfl rfl (d_add64 rfl rfl rfl (r := (k : Int) + 1) (by omega) (by omega)) ?_
        refine s_do rfl rfl rfl (d_move rfl rfl) ?_
        refine s_end ?_
        intro _ hF
        refine ⟨(k + 1), (hF.cons (hF.cons (hF.cons (hF.cons hF.nil 21 _ _ rfl rfl) 2 _ _ rfl rfl) 1 _ _ rfl rfl) 22 _ _ rfl (by go_num)), ⟨H, ?_⟩, ?_⟩
        · refine ⟨by omega, fun j y hj hy => ?_⟩
          rcases Nat.lt_or_ge j k with h | h
          · exact hall j y h hy
          · obtain rfl : j = k := by omega
            rw [hx] at hy; cases hy; omega
        · omega
  · -- no: (k : Int) < 7
    obtain rfl : k = 7 := by omega
    have hg := hall 0 s.gen (by omega) rfl
    have hp := hall 2 s.pages (by omega) rfl
    have hs := hall 3 s.start (by omega) rfl
    have hl := hall 4 s.len (by omega) rfl
    have hh := hall 5 s.head (by omega) rfl
    refine k_exit ?_
    refine k_here ?_
    refine k_seq ?_
    refine k_seq ?_
    refine s_region ?_
    refine s_do rfl rfl rfl (d_field rfl (k := 2) (r := 2) (by kernel_rfl) rfl rfl) ?_
    refine s_do rfl rfl rfl (d_load rfl rfl (by kernel_rfl) (here (H.cel 0 rfl 2 rfl))) ?_
    refine s_do rfl rfl rfl (d_lss rfl rfl rfl) ?_
    refine s_do rfl rfl rfl (d_move rfl rfl) ?_
    refine s_part 35 rfl (fun h4 => ?_) (fun h4 => ?_)
    · -- yes: (s.pages : Int) < 16
      refine s_skip rfl rfl rfl ?_
      refine s_skip rfl rfl rfl ?_
      refine s_skip rfl rfl rfl ?_
      refine s_do rfl rfl rfl (d_pick_t rfl rfl rfl) ?_
      refine s_do rfl rfl rfl (d_move rfl rfl) ?_
      refine s_skip rfl rfl rfl ?_
      refine s_skip rfl rfl rfl ?_
      refine s_skip rfl rfl rfl ?_
      refine s_skip rfl rfl rfl ?_
      refine s_skip rfl rfl rfl ?_
      refine s_skip rfl rfl rfl ?_
      refine s_do rfl rfl rfl (d_pick_t rfl rfl rfl) ?_
      refine s_do rfl rfl rfl (d_move rfl rfl) ?_
      refine s_skip rfl rfl rfl ?_
      refine s_skip rfl rfl rfl ?_
      refine s_skip rfl rfl rfl ?_
      refine s_do rfl rfl rfl (d_pick_t rfl rfl rfl) ?_
      refine s_do rfl rfl rfl (d_move rfl rfl) ?_
      refine s_skip rfl rfl rfl ?_
      refine s_skip rfl rfl rfl ?_
      refine s_skip rfl rfl rfl ?_
      refine s_skip rfl rfl rfl ?_
      refine s_skip rfl rfl rfl ?_
      refine s_skip rfl rfl rfl ?_
      refine s_skip rfl rfl rfl ?_
      refine s_do rfl rfl rfl (d_pick_t rfl rfl rfl) ?_
      refine s_do rfl rfl rfl (d_move rfl rfl) ?_
      refine s_skip rfl rfl rfl ?_
      refine s_skip rfl rfl rfl ?_
      refine s_skip rfl rfl rfl ?_
      refine s_skip rfl rfl rfl ?_
      refine s_do rfl rfl rfl (d_pick_t rfl rfl rfl) ?_
      refine s_do rfl rfl rfl (d_move rfl rfl) ?_
      refine s_skip rfl rfl rfl ?_
      refine s_skip rfl rfl rfl ?_
      refine s_skip rfl rfl rfl ?_
      refine s_skip rfl rfl rfl ?_
      refine s_skip rfl rfl rfl ?_
      refine s_do rfl rfl rfl (d_pick_t rfl rfl rfl) ?_
      refine s_end ?_
      refine k_true rfl ?_
      refine k_seq ?_
      refine s_region ?_
      refine s_do rfl rfl rfl (d_assign rfl rfl) ?_
      refine s_end ?_
      refine k_ret ?_
      refine doneL rfl [.int .i64 1] ⟨rfl, trivial⟩ (v := .int .i64 1) rfl ?_
      have hok : ¬ s.Ok n := fun ⟨q, q1, q2, q3, q4, q5, q6, q7⟩ => by
        first | omega | (have := q x (List.mem_of_getElem? hx); omega)
      exact ⟨[], ⟨congrArg (Value.int .i64) (by rw [if_neg hok]), rfl⟩, H.perm 1 [] rfl rfl⟩
    · -- no: (s.pages : Int) < 16
      refine s_do rfl rfl rfl (d_field rfl (k := 2) (r := 2) (by kernel_rfl) rfl rfl) ?_
      refine s_do rfl rfl rfl (d_load rfl rfl (by kernel_rfl) (here (H.cel 0 rfl 2 rfl))) ?_
      refine s_do rfl rfl rfl (d_gtr rfl rfl rfl) ?_
      refine s_do rfl rfl rfl (d_pick_f rfl rfl rfl) ?_
      refine s_do rfl rfl rfl (d_move rfl rfl) ?_
      refine s_part 40 rfl (fun h5 => ?_) (fun h5 => ?_)
      · -- yes: (1024 : Int) < s.pages
        refine s_skip rfl rfl rfl ?_
        refine s_skip rfl rfl rfl ?_
        refine s_skip rfl rfl rfl ?_
        refine s_skip rfl rfl rfl ?_
        refine s_skip rfl rfl rfl ?_
        refine s_skip rfl rfl rfl ?_
        refine s_do rfl rfl rfl (d_pick_t rfl rfl rfl) ?_
        refine s_do rfl rfl rfl (d_move rfl rfl) ?_
        refine s_skip rfl rfl rfl ?_
        refine s_skip rfl rfl rfl ?_
        refine s_skip rfl rfl rfl ?_
        refine s_do rfl rfl rfl (d_pick_t rfl rfl rfl) ?_
        refine s_do rfl rfl rfl (d_move rfl rfl) ?_
        refine s_skip rfl rfl rfl ?_
        refine s_skip rfl rfl rfl ?_
        refine s_skip rfl rfl rfl ?_
        refine s_skip rfl rfl rfl ?_
        refine s_skip rfl rfl rfl ?_
        refine s_skip rfl rfl rfl ?_
        refine s_skip rfl rfl rfl ?_
        refine s_do rfl rfl rfl (d_pick_t rfl rfl rfl) ?_
        refine s_do rfl rfl rfl (d_move rfl rfl) ?_
        refine s_skip rfl rfl rfl ?_
        refine s_skip rfl rfl rfl ?_
        refine s_skip rfl rfl rfl ?_
        refine s_skip rfl rfl rfl ?_
        refine s_do rfl rfl rfl (d_pick_t rfl rfl rfl) ?_
        refine s_do rfl rfl rfl (d_move rfl rfl) ?_
        refine s_skip rfl rfl rfl ?_
        refine s_skip rfl rfl rfl ?_
        refine s_skip rfl rfl rfl ?_
        refine s_skip rfl rfl rfl ?_
        refine s_skip rfl rfl rfl ?_
        refine s_do rfl rfl rfl (d_pick_t rfl rfl rfl) ?_
        refine s_end ?_
        refine k_true rfl ?_
        refine k_seq ?_
        refine s_region ?_
        refine s_do rfl rfl rfl (d_assign rfl rfl) ?_
        refine s_end ?_
        refine k_ret ?_
        refine doneL rfl [.int .i64 1] ⟨rfl, trivial⟩ (v := .int .i64 1) rfl ?_
        have hok : ¬ s.Ok n := fun ⟨q, q1, q2, q3, q4, q5, q6, q7⟩ => by
          first | omega | (have := q x (List.mem_of_getElem? hx); omega)
        exact ⟨[], ⟨congrArg (Value.int .i64) (by rw [if_neg hok]), rfl⟩, H.perm 1 [] rfl rfl⟩
      · -- no: (1024 : Int) < s.pages
        refine s_do rfl rfl rfl (d_field rfl (k := 3) (r := 3) (by kernel_rfl) rfl rfl) ?_
        refine s_do rfl rfl rfl (d_load rfl rfl (by kernel_rfl) (here (H.cel 0 rfl 3 rfl))) ?_
        refine s_do rfl rfl rfl (d_field rfl (k := 2) (r := 2) (by kernel_rfl) rfl rfl) ?_
        refine s_do rfl rfl rfl (d_load rfl rfl (by kernel_rfl) (here (H.cel 0 rfl 2 rfl))) ?_
        refine s_do rfl rfl rfl (d_add64 rfl rfl rfl (r := 2 + s.pages) (by omega) (by omega)) ?_
        refine s_do rfl rfl rfl (d_lss rfl rfl rfl) ?_
        refine s_do rfl rfl rfl (d_pick_f rfl rfl rfl) ?_
        refine s_do rfl rfl rfl (d_move rfl rfl) ?_
        refine s_part 48 rfl (fun h6 => ?_) (fun h6 => ?_)
        · -- yes: (s.start : Int) < (2 + s.pages)
          refine s_skip rfl rfl rfl ?_
          refine s_skip rfl rfl rfl ?_
          refine s_skip rfl rfl rfl ?_
          refine s_do rfl rfl rfl (d_pick_t rfl rfl rfl) ?_
          refine s_do rfl rfl rfl (d_move rfl rfl) ?_
          refine s_skip rfl rfl rfl ?_
          refine s_skip rfl rfl rfl ?_
          refine s_skip rfl rfl rfl ?_
          refine s_skip rfl rfl rfl ?_
          refine s_skip rfl rfl rfl ?_
          refine s_skip rfl rfl rfl ?_
          refine s_skip rfl rfl rfl ?_
          refine s_do rfl rfl rfl (d_pick_t rfl rfl rfl) ?_
          refine s_do rfl rfl rfl (d_move rfl rfl) ?_
          refine s_skip rfl rfl rfl ?_
          refine s_skip rfl rfl rfl ?_
          refine s_skip rfl rfl rfl ?_
          refine s_skip rfl rfl rfl ?_
          refine s_do rfl rfl rfl (d_pick_t rfl rfl rfl) ?_
          refine s_do rfl rfl rfl (d_move rfl rfl) ?_
          refine s_skip rfl rfl rfl ?_
          refine s_skip rfl rfl rfl ?_
          refine s_skip rfl rfl rfl ?_
          refine s_skip rfl rfl rfl ?_
          refine s_skip rfl rfl rfl ?_
          refine s_do rfl rfl rfl (d_pick_t rfl rfl rfl) ?_
          refine s_end ?_
          refine k_true rfl ?_
          refine k_seq ?_
          refine s_region ?_
          refine s_do rfl rfl rfl (d_assign rfl rfl) ?_
          refine s_end ?_
          refine k_ret ?_
          refine doneL rfl [.int .i64 1] ⟨rfl, trivial⟩ (v := .int .i64 1) rfl ?_
          have hok : ¬ s.Ok n := fun ⟨q, q1, q2, q3, q4, q5, q6, q7⟩ => by
            first | omega | (have := q x (List.mem_of_getElem? hx); omega)
          exact ⟨[], ⟨congrArg (Value.int .i64) (by rw [if_neg hok]), rfl⟩, H.perm 1 [] rfl rfl⟩
        · -- no: (s.start : Int) < (2 + s.pages)
          refine s_do rfl rfl rfl (d_field rfl (k := 4) (r := 4) (by kernel_rfl) rfl rfl) ?_
          refine s_do rfl rfl rfl (d_load rfl rfl (by kernel_rfl) (here (H.cel 0 rfl 4 rfl))) ?_
          refine s_do rfl rfl rfl (d_lss rfl rfl rfl) ?_
          refine s_do rfl rfl rfl (d_pick_f rfl rfl rfl) ?_
          refine s_do rfl rfl rfl (d_move rfl rfl) ?_
          refine s_part 53 rfl (fun h7 => ?_) (fun h7 => ?_)
          · -- yes: (s.len : Int) < 64
            refine s_skip rfl rfl rfl ?_
            refine s_skip rfl rfl rfl ?_
            refine s_skip rfl rfl rfl ?_
            refine s_skip rfl rfl rfl ?_
            refine s_skip rfl rfl rfl ?_
            refine s_skip rfl rfl rfl ?_
            refine s_skip rfl rfl rfl ?_
            refine s_do rfl rfl rfl (d_pick_t rfl rfl rfl) ?_
            refine s_do rfl rfl rfl (d_move rfl rfl) ?_
            refine s_skip rfl rfl rfl ?_
            refine s_skip rfl rfl rfl ?_
            refine s_skip rfl rfl rfl ?_
            refine s_skip rfl rfl rfl ?_
            refine s_do rfl rfl rfl (d_pick_t rfl rfl rfl) ?_
            refine s_do rfl rfl rfl (d_move rfl rfl) ?_
            refine s_skip rfl rfl rfl ?_
            refine s_skip rfl rfl rfl ?_
            refine s_skip rfl rfl rfl ?_
            refine s_skip rfl rfl rfl ?_
            refine s_skip rfl rfl rfl ?_
            refine s_do rfl rfl rfl (d_pick_t rfl rfl rfl) ?_
            refine s_end ?_
            refine k_true rfl ?_
            refine k_seq ?_
            refine s_region ?_
            refine s_do rfl rfl rfl (d_assign rfl rfl) ?_
            refine s_end ?_
            refine k_ret ?_
            refine doneL rfl [.int .i64 1] ⟨rfl, trivial⟩ (v := .int .i64 1) rfl ?_
            have hok : ¬ s.Ok n := fun ⟨q, q1, q2, q3, q4, q5, q6, q7⟩ => by
              first | omega | (have := q x (List.mem_of_getElem? hx); omega)
            exact ⟨[], ⟨congrArg (Value.int .i64) (by rw [if_neg hok]), rfl⟩, H.perm 1 [] rfl rfl⟩
          · -- no: (s.len : Int) < 64
            refine s_do rfl rfl rfl (d_field rfl (k := 3) (r := 3) (by kernel_rfl) rfl rfl) ?_
            refine s_do rfl rfl rfl (d_load rfl rfl (by kernel_rfl) (here (H.cel 0 rfl 3 rfl))) ?_
            refine s_do rfl rfl rfl (d_move rfl rfl) ?_
            refine s_do rfl rfl rfl (d_field rfl (k := 4) (r := 4) (by kernel_rfl) rfl rfl) ?_
            refine s_do rfl rfl rfl (d_load rfl rfl (by kernel_rfl) (here (H.cel 0 rfl 4 rfl))) ?_
            refine s_do rfl rfl rfl (d_sub64 rfl rfl rfl (r := n - s.len) (by omega) (by omega)) ?_
            refine s_do rfl rfl rfl (d_gtr rfl rfl rfl) ?_
            refine s_do rfl rfl rfl (d_pick_f rfl rfl rfl) ?_
            refine s_do rfl rfl rfl (d_move rfl rfl) ?_
            refine s_part 62 rfl (fun h8 => ?_) (fun h8 => ?_)
            · -- yes: (n - s.len : Int) < s.start
              refine s_skip rfl rfl rfl ?_
              refine s_skip rfl rfl rfl ?_
              refine s_skip rfl rfl rfl ?_
              refine s_skip rfl rfl rfl ?_
              refine s_do rfl rfl rfl (d_pick_t rfl rfl rfl) ?_
              refine s_do rfl rfl rfl (d_move rfl rfl) ?_
              refine s_skip rfl rfl rfl ?_
              refine s_skip rfl rfl rfl ?_
              refine s_skip rfl rfl rfl ?_
              refine s_skip rfl rfl rfl ?_
              refine s_skip rfl rfl rfl ?_
              refine s_do rfl rfl rfl (d_pick_t rfl rfl rfl) ?_
              refine s_end ?_
              refine k_true rfl ?_
              refine k_seq ?_
              refine s_region ?_
              refine s_do rfl rfl rfl (d_assign rfl rfl) ?_
              refine s_end ?_
              refine k_ret ?_
              refine doneL rfl [.int .i64 1] ⟨rfl, trivial⟩ (v := .int .i64 1) rfl ?_
              have hok : ¬ s.Ok n := fun ⟨q, q1, q2, q3, q4, q5, q6, q7⟩ => by
                first | omega | (have := q x (List.mem_of_getElem? hx); omega)
              exact ⟨[], ⟨congrArg (Value.int .i64) (by rw [if_neg hok]), rfl⟩, H.perm 1 [] rfl rfl⟩
            · -- no: (n - s.len : Int) < s.start
              refine s_do rfl rfl rfl (d_move rfl rfl) ?_
              refine s_do rfl rfl rfl (d_field rfl (k := 4) (r := 4) (by kernel_rfl) rfl rfl) ?_
              refine s_do rfl rfl rfl (d_load rfl rfl (by kernel_rfl) (here (H.cel 0 rfl 4 rfl))) ?_
              refine s_do rfl rfl rfl (d_lss rfl rfl rfl) ?_
              refine s_do rfl rfl rfl (d_pick_f rfl rfl rfl) ?_
              refine s_do rfl rfl rfl (d_move rfl rfl) ?_
              refine s_part 68 rfl (fun h9 => ?_) (fun h9 => ?_)
              · -- yes: (n : Int) < s.len
                refine s_skip rfl rfl rfl ?_
                refine s_skip rfl rfl rfl ?_
                refine s_skip rfl rfl rfl ?_
                refine s_skip rfl rfl rfl ?_
                refine s_skip rfl rfl rfl ?_
                refine s_do rfl rfl rfl (d_pick_t rfl rfl rfl) ?_
                refine s_end ?_
                refine k_true rfl ?_
                refine k_seq ?_
                refine s_region ?_
                refine s_do rfl rfl rfl (d_assign rfl rfl) ?_
                refine s_end ?_
                refine k_ret ?_
                refine doneL rfl [.int .i64 1] ⟨rfl, trivial⟩ (v := .int .i64 1) rfl ?_
                have hok : ¬ s.Ok n := fun ⟨q, q1, q2, q3, q4, q5, q6, q7⟩ => by
                  first | omega | (have := q x (List.mem_of_getElem? hx); omega)
                exact ⟨[], ⟨congrArg (Value.int .i64) (by rw [if_neg hok]), rfl⟩, H.perm 1 [] rfl rfl⟩
              · -- no: (n : Int) < s.len
                refine s_do rfl rfl rfl (d_field rfl (k := 5) (r := 5) (by kernel_rfl) rfl rfl) ?_
                refine s_do rfl rfl rfl (d_load rfl rfl (by kernel_rfl) (here (H.cel 0 rfl 5 rfl))) ?_
                refine s_do rfl rfl rfl (d_field rfl (k := 4) (r := 4) (by kernel_rfl) rfl rfl) ?_
                refine s_do rfl rfl rfl (d_load rfl rfl (by kernel_rfl) (here (H.cel 0 rfl 4 rfl))) ?_
                refine s_do rfl rfl rfl (d_geq rfl rfl rfl) ?_
                refine s_do rfl rfl rfl (d_pick_f rfl rfl rfl) ?_
                refine s_end ?_
                refine k_dec rfl (fun h10 => ?_) (fun h10 => ?_)
                · -- yes: (s.len : Int) ≤ s.head
                  refine k_seq ?_
                  refine s_region ?_
                  refine s_do rfl rfl rfl (d_assign rfl rfl) ?_
                  refine s_end ?_
                  refine k_ret ?_
                  refine doneL rfl [.int .i64 1] ⟨rfl, trivial⟩ (v := .int .i64 1) rfl ?_
                  have hok : ¬ s.Ok n := fun ⟨q, q1, q2, q3, q4, q5, q6, q7⟩ => by
                    first | omega | (have := q x (List.mem_of_getElem? hx); omega)
                  exact ⟨[], ⟨congrArg (Value.int .i64) (by rw [if_neg hok]), rfl⟩, H.perm 1 [] rfl rfl⟩
                · -- no: (s.len : Int) ≤ s.head
                  refine k_skip ?_
                  refine k_seq ?_
                  refine s_region ?_
                  refine s_do rfl rfl rfl (d_assign rfl rfl) ?_
                  refine s_end ?_
                  refine k_ret ?_
                  refine doneL rfl [.int .i64 0] ⟨rfl, trivial⟩ (v := .int .i64 0) rfl ?_
                  have hok : s.Ok n := ⟨fun x hx => by
                    obtain ⟨j, hj, rfl⟩ := List.mem_iff_getElem.1 hx
                    exact hall j _ (by simp [Sup.list] at hj; omega) (List.getElem?_eq_getElem hj)
                    , by omega, by omega, by omega, by omega, by omega, by omega, by omega⟩
                  exact ⟨[], ⟨congrArg (Value.int .i64) (by rw [if_pos hok]), rfl⟩, H.perm 1 [] rfl rfl⟩

theorem room_c (pl pd pt : Nat) (s : Sup) (at_ sq us : Int) (br nu : Bool) (hb : -9223372036854775808 ≤ s.len - us ∧ s.len - us ≤ 9223372036854775807) : Cn Tryz.prog 14 [.pointer (some ⟨pl, 0, none⟩)] [blk pl [.pointer (some ⟨pd, 0, none⟩), .pointer (some ⟨pt, 0, none⟩), .int .i64 s.gen, .int .i64 s.epoch, .int .i64 s.pages, .int .i64 s.start, .int .i64 s.len, .int .i64 s.head, .int .i64 s.seq, .int .i64 at_, .int .i64 sq, .int .i64 us, .bool br, .bool nu] 77] (fun v Γ => v = .int .i64 (if br then 0 else s.len - us) ∧ Γ = [blk pl [.pointer (some ⟨pd, 0, none⟩), .pointer (some ⟨pt, 0, none⟩), .int .i64 s.gen, .int .i64 s.epoch, .int .i64 s.pages, .int .i64 s.start, .int .i64 s.len, .int .i64 s.head, .int .i64 s.seq, .int .i64 at_, .int .i64 sq, .int .i64 us, .bool br, .bool nu] 77]) := by
  intro z R w H'
  have H : Sep z (blk pl [.pointer (some ⟨pd, 0, none⟩), .pointer (some ⟨pt, 0, none⟩), .int .i64 s.gen, .int .i64 s.epoch, .int .i64 s.pages, .int .i64 s.start, .int .i64 s.len, .int .i64 s.head, .int .i64 s.seq, .int .i64 at_, .int .i64 sq, .int .i64 us, .bool br, .bool nu] 77 :: R) w := H'
  clear H'
  refine enter Tryz.func14 rfl 17 Tryz.ntmps14 rfl ?_
  refine k_seq ?_
  refine s_region ?_
  refine s_do rfl rfl rfl (d_assign rfl rfl) ?_
  refine s_end ?_
  refine k_seq ?_
  refine k_seq ?_
  refine s_region ?_
  refine s_do rfl rfl rfl (d_move rfl rfl) ?_
  refine s_do rfl rfl rfl (d_nilCheck rfl rfl) ?_
  refine s_do rfl rfl rfl (d_field rfl (k := 12) (r := 12) (by kernel_rfl) rfl rfl) ?_
  refine s_do rfl rfl rfl (d_load rfl rfl (by kernel_rfl) (here (H.cel 0 rfl 12 rfl))) ?_
  refine s_end ?_
  refine k_cond rfl (fun h1 => ?_) (fun h1 => ?_)
  · -- yes: br
    refine k_seq ?_
    refine s_region ?_
    refine s_do rfl rfl rfl (d_assign rfl rfl) ?_
    refine s_end ?_
    refine k_ret ?_
    refine doneL rfl [.int .i64 0] ⟨rfl, trivial⟩ (v := .int .i64 0) rfl ?_
    exact ⟨[blk pl [.pointer (some ⟨pd, 0, none⟩), .pointer (some ⟨pt, 0, none⟩), .int .i64 s.gen, .int .i64 s.epoch, .int .i64 s.pages, .int .i64 s.start, .int .i64 s.len, .int .i64 s.head, .int .i64 s.seq, .int .i64 at_, .int .i64 sq, .int .i64 us, .bool br, .bool nu] 77], ⟨congrArg (Value.int .i64) (by simp_all), rfl⟩, H⟩
  · -- no: br
    refine k_skip ?_
    refine k_seq ?_
    refine q_region (Sep z (blk pl [.pointer (some ⟨pd, 0, none⟩), .pointer (some ⟨pt, 0, none⟩), .int .i64 s.gen, .int .i64 s.epoch, .int .i64 s.pages, .int .i64 s.start, .int .i64 s.len, .int .i64 s.head, .int .i64 s.seq, .int .i64 at_, .int .i64 sq, .int .i64 us, .bool br, .bool nu] 77 :: R)) (by kernel_rfl) (by kernel_rfl) H.drew ?_
    refine q_do rfl rfl rfl (d_move rfl rfl) ?_
    refine q_do rfl rfl rfl (d_nilCheck rfl rfl) ?_
    refine q_do rfl rfl rfl (d_field rfl (k := 2) (r := 2) (by kernel_rfl) rfl rfl) ?_
    refine q_do rfl rfl rfl (d_field rfl (k := 4) (r := 6) (by kernel_rfl) rfl rfl) ?_
    refine q_do rfl rfl rfl (d_load rfl rfl (by kernel_rfl) (fun _ hx => hx.cel 0 rfl 6 rfl)) ?_
    refine q_do rfl rfl rfl (d_move rfl rfl) ?_
    refine q_do rfl rfl rfl (d_nilCheck rfl rfl) ?_
    refine q_do rfl rfl rfl (d_field rfl (k := 11) (r := 11) (by kernel_rfl) rfl rfl) ?_
    refine q_do rfl rfl rfl (d_load rfl rfl (by kernel_rfl) (fun _ hx => hx.cel 0 rfl 11 rfl)) ?_
    refine q_do rfl rfl rfl (d_sub64 rfl rfl rfl (r := s.len - us) (by omega) (by omega)) ?_
    refine q_do rfl rfl rfl (d_assign rfl rfl) ?_
    refine q_end (fun w H' => ?_)
    have H : Sep z (blk pl [.pointer (some ⟨pd, 0, none⟩), .pointer (some ⟨pt, 0, none⟩), .int .i64 s.gen, .int .i64 s.epoch, .int .i64 s.pages, .int .i64 s.start, .int .i64 s.len, .int .i64 s.head, .int .i64 s.seq, .int .i64 at_, .int .i64 sq, .int .i64 us, .bool br, .bool nu] 77 :: R) w := H'
    clear H'
    refine k_ret ?_
    refine doneL rfl [.int .i64 (s.len - us)] ⟨rfl, trivial⟩ (v := .int .i64 (s.len - us)) rfl ?_
    exact ⟨[blk pl [.pointer (some ⟨pd, 0, none⟩), .pointer (some ⟨pt, 0, none⟩), .int .i64 s.gen, .int .i64 s.epoch, .int .i64 s.pages, .int .i64 s.start, .int .i64 s.len, .int .i64 s.head, .int .i64 s.seq, .int .i64 at_, .int .i64 sq, .int .i64 us, .bool br, .bool nu] 77], ⟨congrArg (Value.int .i64) (by simp_all), rfl⟩, H⟩

theorem tail_c (pl pd pt : Nat) (s : Sup) (at_ sq us : Int) (br nu : Bool) : Cn Tryz.prog 15 [.pointer (some ⟨pl, 0, none⟩)] [blk pl [.pointer (some ⟨pd, 0, none⟩), .pointer (some ⟨pt, 0, none⟩), .int .i64 s.gen, .int .i64 s.epoch, .int .i64 s.pages, .int .i64 s.start, .int .i64 s.len, .int .i64 s.head, .int .i64 s.seq, .int .i64 at_, .int .i64 sq, .int .i64 us, .bool br, .bool nu] 77] (fun v Γ => v = .tuple #[.int .i64 at_, .int .i64 sq] ∧ Γ = [blk pl [.pointer (some ⟨pd, 0, none⟩), .pointer (some ⟨pt, 0, none⟩), .int .i64 s.gen, .int .i64 s.epoch, .int .i64 s.pages, .int .i64 s.start, .int .i64 s.len, .int .i64 s.head, .int .i64 s.seq, .int .i64 at_, .int .i64 sq, .int .i64 us, .bool br, .bool nu] 77]) := by
  intro z R w H'
  have H : Sep z (blk pl [.pointer (some ⟨pd, 0, none⟩), .pointer (some ⟨pt, 0, none⟩), .int .i64 s.gen, .int .i64 s.epoch, .int .i64 s.pages, .int .i64 s.start, .int .i64 s.len, .int .i64 s.head, .int .i64 s.seq, .int .i64 at_, .int .i64 sq, .int .i64 us, .bool br, .bool nu] 77 :: R) w := H'
  clear H'
  refine enter Tryz.func15 rfl 12 Tryz.ntmps15 rfl ?_
  refine k_seq ?_
  refine s_region ?_
  refine s_do rfl rfl rfl (d_assign rfl rfl) ?_
  refine s_do rfl rfl rfl (d_assign rfl rfl) ?_
  refine s_end ?_
  refine k_seq ?_
  refine q_region (Sep z (blk pl [.pointer (some ⟨pd, 0, none⟩), .pointer (some ⟨pt, 0, none⟩), .int .i64 s.gen, .int .i64 s.epoch, .int .i64 s.pages, .int .i64 s.start, .int .i64 s.len, .int .i64 s.head, .int .i64 s.seq, .int .i64 at_, .int .i64 sq, .int .i64 us, .bool br, .bool nu] 77 :: R)) (by kernel_rfl) (by kernel_rfl) H.drew ?_
  refine q_do rfl rfl rfl (d_move rfl rfl) ?_
  refine q_do rfl rfl rfl (d_nilCheck rfl rfl) ?_
  refine q_do rfl rfl rfl (d_field rfl (k := 9) (r := 9) (by kernel_rfl) rfl rfl) ?_
  refine q_do rfl rfl rfl (d_load rfl rfl (by kernel_rfl) (fun _ hx => hx.cel 0 rfl 9 rfl)) ?_
  refine q_do rfl rfl rfl (d_move rfl rfl) ?_
  refine q_do rfl rfl rfl (d_nilCheck rfl rfl) ?_
  refine q_do rfl rfl rfl (d_field rfl (k := 10) (r := 10) (by kernel_rfl) rfl rfl) ?_
  refine q_do rfl rfl rfl (d_load rfl rfl (by kernel_rfl) (fun _ hx => hx.cel 0 rfl 10 rfl)) ?_
  refine q_do rfl rfl rfl (d_assign rfl rfl) ?_
  refine q_do rfl rfl rfl (d_assign rfl rfl) ?_
  refine q_end (fun w H' => ?_)
  have H : Sep z (blk pl [.pointer (some ⟨pd, 0, none⟩), .pointer (some ⟨pt, 0, none⟩), .int .i64 s.gen, .int .i64 s.epoch, .int .i64 s.pages, .int .i64 s.start, .int .i64 s.len, .int .i64 s.head, .int .i64 s.seq, .int .i64 at_, .int .i64 sq, .int .i64 us, .bool br, .bool nu] 77 :: R) w := H'
  clear H'
  refine k_ret ?_
  refine doneL rfl [.int .i64 at_, .int .i64 sq] ⟨rfl, ⟨rfl, trivial⟩⟩ (v := .tuple #[.int .i64 at_, .int .i64 sq]) rfl ?_
  exact ⟨[blk pl [.pointer (some ⟨pd, 0, none⟩), .pointer (some ⟨pt, 0, none⟩), .int .i64 s.gen, .int .i64 s.epoch, .int .i64 s.pages, .int .i64 s.start, .int .i64 s.len, .int .i64 s.head, .int .i64 s.seq, .int .i64 at_, .int .i64 sq, .int .i64 us, .bool br, .bool nu] 77], ⟨rfl, rfl⟩, H⟩

theorem drop_c (pl pd pt : Nat) (s : Sup) (at_ sq us : Int) (br nu : Bool) : Cn Tryz.prog 11 [.pointer (some ⟨pl, 0, none⟩)] [blk pl [.pointer (some ⟨pd, 0, none⟩), .pointer (some ⟨pt, 0, none⟩), .int .i64 s.gen, .int .i64 s.epoch, .int .i64 s.pages, .int .i64 s.start, .int .i64 s.len, .int .i64 s.head, .int .i64 s.seq, .int .i64 at_, .int .i64 sq, .int .i64 us, .bool br, .bool nu] 77] (fun v Γ => v = .tuple #[] ∧ Γ = [blk pl [.pointer (some ⟨pd, 0, none⟩), .pointer (some ⟨pt, 0, none⟩), .int .i64 s.gen, .int .i64 s.epoch, .int .i64 s.pages, .int .i64 s.start, .int .i64 s.len, .int .i64 s.head, .int .i64 s.seq, .int .i64 at_, .int .i64 sq, .int .i64 0, .bool false, .bool nu] 77]) := by
  intro z R w H'
  have H : Sep z (blk pl [.pointer (some ⟨pd, 0, none⟩), .pointer (some ⟨pt, 0, none⟩), .int .i64 s.gen, .int .i64 s.epoch, .int .i64 s.pages, .int .i64 s.start, .int .i64 s.len, .int .i64 s.head, .int .i64 s.seq, .int .i64 at_, .int .i64 sq, .int .i64 us, .bool br, .bool nu] 77 :: R) w := H'
  clear H'
  refine enter Tryz.func11 rfl 8 Tryz.ntmps11 rfl ?_
  refine k_seq ?_
  refine s_region ?_
  refine s_do rfl rfl rfl (d_move rfl rfl) ?_
  refine s_do rfl rfl rfl (d_nilCheck rfl rfl) ?_
  refine s_do rfl rfl rfl (d_field rfl (k := 11) (r := 11) (by kernel_rfl) rfl rfl) ?_
  refine s_put rfl rfl (n_store 0 H rfl rfl rfl rfl (vs := [.int .i64 0]) rfl (by simp [u8, u32, Value.oneCell']) (by kernel_rfl) (by simp) (out := [.pointer (some ⟨pd, 0, none⟩), .pointer (some ⟨pt, 0, none⟩), .int .i64 s.gen, .int .i64 s.epoch, .int .i64 s.pages, .int .i64 s.start, .int .i64 s.len, .int .i64 s.head, .int .i64 s.seq, .int .i64 at_, .int .i64 sq, .int .i64 0, .bool br, .bool nu]) rfl) ?_
  rintro w H'
  have H : Sep z (blk pl [.pointer (some ⟨pd, 0, none⟩), .pointer (some ⟨pt, 0, none⟩), .int .i64 s.gen, .int .i64 s.epoch, .int .i64 s.pages, .int .i64 s.start, .int .i64 s.len, .int .i64 s.head, .int .i64 s.seq, .int .i64 at_, .int .i64 sq, .int .i64 0, .bool br, .bool nu] 77 :: R) w := H'
  clear H'
  refine s_end ?_
  refine s_region ?_
  refine s_do rfl rfl rfl (d_move rfl rfl) ?_
  refine s_do rfl rfl rfl (d_nilCheck rfl rfl) ?_
  refine s_do rfl rfl rfl (d_field rfl (k := 12) (r := 12) (by kernel_rfl) rfl rfl) ?_
  refine s_put rfl rfl (n_store 0 H rfl rfl rfl rfl (vs := [.bool false]) rfl (by simp [u8, u32, Value.oneCell']) (by kernel_rfl) (by simp) (out := [.pointer (some ⟨pd, 0, none⟩), .pointer (some ⟨pt, 0, none⟩), .int .i64 s.gen, .int .i64 s.epoch, .int .i64 s.pages, .int .i64 s.start, .int .i64 s.len, .int .i64 s.head, .int .i64 s.seq, .int .i64 at_, .int .i64 sq, .int .i64 0, .bool false, .bool nu]) rfl) ?_
  rintro w H'
  have H : Sep z (blk pl [.pointer (some ⟨pd, 0, none⟩), .pointer (some ⟨pt, 0, none⟩), .int .i64 s.gen, .int .i64 s.epoch, .int .i64 s.pages, .int .i64 s.start, .int .i64 s.len, .int .i64 s.head, .int .i64 s.seq, .int .i64 at_, .int .i64 sq, .int .i64 0, .bool false, .bool nu] 77 :: R) w := H'
  clear H'
  refine s_end ?_
  refine doneL rfl [] trivial (v := .tuple #[]) rfl ?_
  exact ⟨[blk pl [.pointer (some ⟨pd, 0, none⟩), .pointer (some ⟨pt, 0, none⟩), .int .i64 s.gen, .int .i64 s.epoch, .int .i64 s.pages, .int .i64 s.start, .int .i64 s.len, .int .i64 s.head, .int .i64 s.seq, .int .i64 at_, .int .i64 sq, .int .i64 0, .bool false, .bool nu] 77], ⟨rfl, rfl⟩, H⟩

theorem passed_c (pl pd pt : Nat) (s : Sup) (at_ sq us : Int) (br nu : Bool) (n : Int) (ha : 0 ≤ at_ ∧ at_ ≤ 1099511627776) (hn : 0 ≤ n ∧ n ≤ 1099511627776) (hl : 0 < s.len) (hs : 0 ≤ sq ∧ sq ≤ 2199023255552) (hu : 0 ≤ us ∧ us ≤ 2199023255552) : Cn Tryz.prog 25 [.pointer (some ⟨pl, 0, none⟩), .int .i64 n] [blk pl [.pointer (some ⟨pd, 0, none⟩), .pointer (some ⟨pt, 0, none⟩), .int .i64 s.gen, .int .i64 s.epoch, .int .i64 s.pages, .int .i64 s.start, .int .i64 s.len, .int .i64 s.head, .int .i64 s.seq, .int .i64 at_, .int .i64 sq, .int .i64 us, .bool br, .bool nu] 77] (fun v Γ => v = .tuple #[] ∧ Γ = [blk pl [.pointer (some ⟨pd, 0, none⟩), .pointer (some ⟨pt, 0, none⟩), .int .i64 s.gen, .int .i64 s.epoch, .int .i64 s.pages, .int .i64 s.start, .int .i64 s.len, .int .i64 s.head, .int .i64 s.seq, .int .i64 ((at_ + n) % s.len), .int .i64 (sq + 1), .int .i64 (us + n), .bool br, .bool nu] 77]) := by
  intro z R w H'
  have H : Sep z (blk pl [.pointer (some ⟨pd, 0, none⟩), .pointer (some ⟨pt, 0, none⟩), .int .i64 s.gen, .int .i64 s.epoch, .int .i64 s.pages, .int .i64 s.start, .int .i64 s.len, .int .i64 s.head, .int .i64 s.seq, .int .i64 at_, .int .i64 sq, .int .i64 us, .bool br, .bool nu] 77 :: R) w := H'
  clear H'
  refine enter Tryz.func25 rfl 34 Tryz.ntmps25 rfl ?_
  refine k_seq ?_
  refine t_region 15 (by kernel_rfl) (by kernel_rfl) (fun w' x' _ => ?_)
  have H' := H.ext0 x'; clear x' H; revert H'; generalize w' = w; intro H'
  have H : Sep z (blk pl [.pointer (some ⟨pd, 0, none⟩), .pointer (some ⟨pt, 0, none⟩), .int .i64 s.gen, .int .i64 s.epoch, .int .i64 s.pages, .int .i64 s.start, .int .i64 s.len, .int .i64 s.head, .int .i64 s.seq, .int .i64 at_, .int .i64 sq, .int .i64 us, .bool br, .bool nu] 77 :: R) w := H'
  clear H'
  refine t_do rfl rfl rfl (d_move rfl rfl) ?_
  refine t_do rfl rfl rfl (d_move rfl rfl) ?_
  refine t_do rfl rfl rfl (d_nilCheck rfl rfl) ?_
  refine t_do rfl rfl rfl (d_field rfl (k := 9) (r := 9) (by kernel_rfl) rfl rfl) ?_
  refine t_do rfl rfl rfl (d_load rfl rfl (by kernel_rfl) (here (H.cel 0 rfl 9 rfl))) ?_
  refine t_do rfl rfl rfl (d_move rfl rfl) ?_
  refine t_do rfl rfl rfl (d_add64 rfl rfl rfl (r := at_ + n) (by omega) (by omega)) ?_
  refine t_do rfl rfl rfl (d_move rfl rfl) ?_
  refine t_do rfl rfl rfl (d_nilCheck rfl rfl) ?_
  refine t_do rfl rfl rfl (d_field rfl (k := 2) (r := 2) (by kernel_rfl) rfl rfl) ?_
  refine t_do rfl rfl rfl (d_field rfl (k := 4) (r := 6) (by kernel_rfl) rfl rfl) ?_
  refine t_do rfl rfl rfl (d_load rfl rfl (by kernel_rfl) (here (H.cel 0 rfl 6 rfl))) ?_
  refine t_do rfl rfl rfl (d_rem64 rfl rfl rfl (r := (at_ + n) % s.len) (by omega) (by omega) (by omega)) ?_
  refine t_do rfl rfl rfl (d_nilCheck rfl rfl) ?_
  refine t_do rfl rfl rfl (d_field rfl (k := 9) (r := 9) (by kernel_rfl) rfl rfl) ?_
  refine t_end ?_
  refine s_put rfl rfl (n_store 0 H rfl rfl rfl rfl (vs := [.int .i64 ((at_ + n) % s.len)]) rfl (by simp [u8, u32, Value.oneCell']) (by kernel_rfl) (by simp) (out := [.pointer (some ⟨pd, 0, none⟩), .pointer (some ⟨pt, 0, none⟩), .int .i64 s.gen, .int .i64 s.epoch, .int .i64 s.pages, .int .i64 s.start, .int .i64 s.len, .int .i64 s.head, .int .i64 s.seq, .int .i64 ((at_ + n) % s.len), .int .i64 sq, .int .i64 us, .bool br, .bool nu]) rfl) ?_
  rintro w H'
  have H : Sep z (blk pl [.pointer (some ⟨pd, 0, none⟩), .pointer (some ⟨pt, 0, none⟩), .int .i64 s.gen, .int .i64 s.epoch, .int .i64 s.pages, .int .i64 s.start, .int .i64 s.len, .int .i64 s.head, .int .i64 s.seq, .int .i64 ((at_ + n) % s.len), .int .i64 sq, .int .i64 us, .bool br, .bool nu] 77 :: R) w := H'
  clear H'
  refine s_end ?_
  refine k_seq ?_
  refine s_region ?_
  refine s_do rfl rfl rfl (d_move rfl rfl) ?_
  refine s_do rfl rfl rfl (d_nilCheck rfl rfl) ?_
  refine s_do rfl rfl rfl (d_field rfl (k := 10) (r := 10) (by kernel_rfl) rfl rfl) ?_
  refine s_do rfl rfl rfl (d_load rfl rfl (by kernel_rfl) (here (H.cel 0 rfl 10 rfl))) ?_
  refine s_do rfl rfl rfl (d_add64 rfl rfl rfl (r := sq + 1) (by omega) (by omega)) ?_
  refine s_do rfl rfl rfl (d_nilCheck rfl rfl) ?_
  refine s_do rfl rfl rfl (d_field rfl (k := 10) (r := 10) (by kernel_rfl) rfl rfl) ?_
  refine s_put rfl rfl (n_store 0 H rfl rfl rfl rfl (vs := [.int .i64 (sq + 1)]) rfl (by simp [u8, u32, Value.oneCell']) (by kernel_rfl) (by simp) (out := [.pointer (some ⟨pd, 0, none⟩), .pointer (some ⟨pt, 0, none⟩), .int .i64 s.gen, .int .i64 s.epoch, .int .i64 s.pages, .int .i64 s.start, .int .i64 s.len, .int .i64 s.head, .int .i64 s.seq, .int .i64 ((at_ + n) % s.len), .int .i64 (sq + 1), .int .i64 us, .bool br, .bool nu]) rfl) ?_
  rintro w H'
  have H : Sep z (blk pl [.pointer (some ⟨pd, 0, none⟩), .pointer (some ⟨pt, 0, none⟩), .int .i64 s.gen, .int .i64 s.epoch, .int .i64 s.pages, .int .i64 s.start, .int .i64 s.len, .int .i64 s.head, .int .i64 s.seq, .int .i64 ((at_ + n) % s.len), .int .i64 (sq + 1), .int .i64 us, .bool br, .bool nu] 77 :: R) w := H'
  clear H'
  refine s_end ?_
  refine s_region ?_
  refine s_do rfl rfl rfl (d_move rfl rfl) ?_
  refine s_do rfl rfl rfl (d_nilCheck rfl rfl) ?_
  refine s_do rfl rfl rfl (d_field rfl (k := 11) (r := 11) (by kernel_rfl) rfl rfl) ?_
  refine s_do rfl rfl rfl (d_load rfl rfl (by kernel_rfl) (here (H.cel 0 rfl 11 rfl))) ?_
  refine s_do rfl rfl rfl (d_move rfl rfl) ?_
  refine s_do rfl rfl rfl (d_add64 rfl rfl rfl (r := us + n) (by omega) (by omega)) ?_
  refine s_do rfl rfl rfl (d_nilCheck rfl rfl) ?_
  refine s_do rfl rfl rfl (d_field rfl (k := 11) (r := 11) (by kernel_rfl) rfl rfl) ?_
  refine s_put rfl rfl (n_store 0 H rfl rfl rfl rfl (vs := [.int .i64 (us + n)]) rfl (by simp [u8, u32, Value.oneCell']) (by kernel_rfl) (by simp) (out := [.pointer (some ⟨pd, 0, none⟩), .pointer (some ⟨pt, 0, none⟩), .int .i64 s.gen, .int .i64 s.epoch, .int .i64 s.pages, .int .i64 s.start, .int .i64 s.len, .int .i64 s.head, .int .i64 s.seq, .int .i64 ((at_ + n) % s.len), .int .i64 (sq + 1), .int .i64 (us + n), .bool br, .bool nu]) rfl) ?_
  rintro w H'
  have H : Sep z (blk pl [.pointer (some ⟨pd, 0, none⟩), .pointer (some ⟨pt, 0, none⟩), .int .i64 s.gen, .int .i64 s.epoch, .int .i64 s.pages, .int .i64 s.start, .int .i64 s.len, .int .i64 s.head, .int .i64 s.seq, .int .i64 ((at_ + n) % s.len), .int .i64 (sq + 1), .int .i64 (us + n), .bool br, .bool nu] 77 :: R) w := H'
  clear H'
  refine s_end ?_
  refine doneL rfl [] trivial (v := .tuple #[]) rfl ?_
  exact ⟨[blk pl [.pointer (some ⟨pd, 0, none⟩), .pointer (some ⟨pt, 0, none⟩), .int .i64 s.gen, .int .i64 s.epoch, .int .i64 s.pages, .int .i64 s.start, .int .i64 s.len, .int .i64 s.head, .int .i64 s.seq, .int .i64 ((at_ + n) % s.len), .int .i64 (sq + 1), .int .i64 (us + n), .bool br, .bool nu] 77], ⟨rfl, rfl⟩, H⟩

theorem lnew_ok (pd bd m N : Nat) (f0 f1 f2 f3 lf : Int) (cut : Bool) (pt : Nat) (s : Sup) (hN : N ≤ 1152921504606846976) (hok : s.Ok ((N : Int) / 256)) : Cn Tryz.prog 8 [.pointer (some ⟨pd, 0, none⟩), .pointer (some ⟨pt, 0, none⟩), .agg #[.int .i64 s.gen, .int .i64 s.epoch, .int .i64 s.pages, .int .i64 s.start, .int .i64 s.len, .int .i64 s.head, .int .i64 s.seq]] [blk pd [.slice (some ⟨bd, 0, none⟩) N N, .map (some m), .int .i64 f0, .int .i64 f1, .int .i64 f2, .int .i64 f3, .bool cut, .int .i64 lf] 74] (fun v Γ => (∃ pl, v = .pointer (some ⟨pl, 0, none⟩) ∧ Γ = [blk pl [.pointer (some ⟨pd, 0, none⟩), .pointer (some ⟨pt, 0, none⟩), .int .i64 s.gen, .int .i64 s.epoch, .int .i64 s.pages, .int .i64 s.start, .int .i64 s.len, .int .i64 s.head, .int .i64 s.seq, .int .i64 s.head, .int .i64 s.seq, .int .i64 0, .bool false, .bool (decide (s.epoch < 4294967296))] 77, blk pd [.slice (some ⟨bd, 0, none⟩) N N, .map (some m), .int .i64 f0, .int .i64 f1, .int .i64 f2, .int .i64 f3, .bool cut, .int .i64 lf] 74])) := by
  intro z R w H'
  have H : Sep z (blk pd [.slice (some ⟨bd, 0, none⟩) N N, .map (some m), .int .i64 f0, .int .i64 f1, .int .i64 f2, .int .i64 f3, .bool cut, .int .i64 lf] 74 :: R) w := H'
  clear H'
  refine enter Tryz.func8 rfl 32 Tryz.ntmps8 rfl ?_
  refine k_seq ?_
  refine s_region ?_
  refine s_go rfl rfl rfl (n_box H rfl rfl (cs := [.int .i64 s.gen, .int .i64 s.epoch, .int .i64 s.pages, .int .i64 s.start, .int .i64 s.len, .int .i64 s.head, .int .i64 s.seq]) rfl) ?_
  rintro _ w ⟨b1, rfl, H'⟩
  have H : Sep z (blk b1 [.int .i64 s.gen, .int .i64 s.epoch, .int .i64 s.pages, .int .i64 s.start, .int .i64 s.len, .int .i64 s.head, .int .i64 s.seq] 33 :: blk pd [.slice (some ⟨bd, 0, none⟩) N N, .map (some m), .int .i64 f0, .int .i64 f1, .int .i64 f2, .int .i64 f3, .bool cut, .int .i64 lf] 74 :: R) w := H'
  clear H'
  refine s_do rfl rfl rfl (d_assign rfl rfl) ?_
  refine s_end ?_
  refine k_seq ?_
  refine k_seq ?_
  refine q_region (Sep z (blk b1 [.int .i64 s.gen, .int .i64 s.epoch, .int .i64 s.pages, .int .i64 s.start, .int .i64 s.len, .int .i64 s.head, .int .i64 s.seq] 33 :: blk pd [.slice (some ⟨bd, 0, none⟩) N N, .map (some m), .int .i64 f0, .int .i64 f1, .int .i64 f2, .int .i64 f3, .bool cut, .int .i64 lf] 74 :: R)) (by kernel_rfl) (by kernel_rfl) H.drew ?_
  refine q_do rfl rfl rfl (d_move rfl rfl) ?_
  refine q_do rfl rfl rfl (d_eql_pn rfl (by kernel_rfl) rfl rfl) ?_
  refine q_do rfl rfl rfl (d_move rfl rfl) ?_
  refine q_do rfl rfl rfl (d_move rfl rfl) ?_
  refine q_do rfl rfl rfl (d_eql_pn rfl (by kernel_rfl) rfl rfl) ?_
  refine q_do rfl rfl rfl (d_pick_f rfl rfl rfl) ?_
  refine q_do rfl rfl rfl (d_move rfl rfl) ?_
  refine q_do rfl rfl rfl (d_loadAgg rfl rfl (vs := [.int .i64 s.gen, .int .i64 s.epoch, .int .i64 s.pages, .int .i64 s.start, .int .i64 s.len, .int .i64 s.head, .int .i64 s.seq]) (by kernel_rfl) (fun _ hx => (hx.blk 0 rfl).part 0 7 _ rfl)) ?_
  refine q_do rfl rfl rfl (d_move rfl rfl) ?_
  refine q_call rfl rfl rfl rfl rfl (fun w => Tryz.call22 _ w) (v := .int .i64 ((N : Int) / 256)) (cq (size_c _ _ _ _ _ _ _ _ _ _ (by omega)) (by rintro _ _ ⟨rfl, rfl⟩; exact ⟨rfl, rfl⟩) 2 [1, 0] [1, 0] rfl rfl rfl rfl) ?_
  refine q_call rfl rfl rfl rfl rfl (fun w => Tryz.call21 _ w) (v := .int .i64 (if s.Ok ((N : Int) / 256) then 0 else 1)) (cq (check_c _ _ (by omega)) (by rintro _ _ ⟨rfl, rfl⟩; exact ⟨rfl, rfl⟩) 0 [] [] rfl rfl rfl rfl) ?_
  refine q_do rfl rfl rfl (d_neq rfl rfl rfl) ?_
  refine q_do rfl rfl rfl (d_pick_f rfl rfl rfl) ?_
  refine q_end (fun w H' => ?_)
  have H : Sep z (blk b1 [.int .i64 s.gen, .int .i64 s.epoch, .int .i64 s.pages, .int .i64 s.start, .int .i64 s.len, .int .i64 s.head, .int .i64 s.seq] 33 :: blk pd [.slice (some ⟨bd, 0, none⟩) N N, .map (some m), .int .i64 f0, .int .i64 f1, .int .i64 f2, .int .i64 f3, .bool cut, .int .i64 lf] 74 :: R) w := H'
  clear H'
  refine k_dec rfl (fun h1 => ?_) (fun h1 => ?_)
  · exact absurd (if_pos hok) h1
  · -- no: (if s.Ok ((N : Int) / 256) then 0 else 1) ≠ 0
    refine k_skip ?_
    refine k_seq ?_
    refine s_region ?_
    refine s_do rfl rfl rfl (d_move rfl rfl) ?_
    refine s_do rfl rfl rfl (d_move rfl rfl) ?_
    refine s_do rfl rfl rfl (d_loadAgg rfl rfl (vs := [.int .i64 s.gen, .int .i64 s.epoch, .int .i64 s.pages, .int .i64 s.start, .int .i64 s.len, .int .i64 s.head, .int .i64 s.seq]) (by kernel_rfl) (here ((H.blk 0 rfl).part 0 7 _ rfl))) ?_
    refine s_do rfl rfl rfl (d_field rfl (k := 5) (r := 5) (by kernel_rfl) rfl rfl) ?_
    refine s_do rfl rfl rfl (d_load rfl rfl (by kernel_rfl) (here (H.cel 0 rfl 5 rfl))) ?_
    refine s_do rfl rfl rfl (d_field rfl (k := 6) (r := 6) (by kernel_rfl) rfl rfl) ?_
    refine s_do rfl rfl rfl (d_load rfl rfl (by kernel_rfl) (here (H.cel 0 rfl 6 rfl))) ?_
    refine s_do rfl rfl rfl (d_field rfl (k := 1) (r := 1) (by kernel_rfl) rfl rfl) ?_
    refine s_do rfl rfl rfl (d_load rfl rfl (by kernel_rfl) (here (H.cel 0 rfl 1 rfl))) ?_
    refine s_do rfl rfl rfl (d_lss rfl rfl rfl) ?_
    refine s_do rfl rfl rfl (d_build rfl rfl (out := [.pointer (some ⟨pd, 0, none⟩), .pointer (some ⟨pt, 0, none⟩), .int .i64 s.gen, .int .i64 s.epoch, .int .i64 s.pages, .int .i64 s.start, .int .i64 s.len, .int .i64 s.head, .int .i64 s.seq, .int .i64 s.head, .int .i64 s.seq, .int .i64 0, .bool false, .bool (decide ((s.epoch : Int) < 4294967296))]) (by kernel_rfl)) ?_
    refine s_go rfl rfl rfl (n_box H rfl rfl (cs := [.pointer (some ⟨pd, 0, none⟩), .pointer (some ⟨pt, 0, none⟩), .int .i64 s.gen, .int .i64 s.epoch, .int .i64 s.pages, .int .i64 s.start, .int .i64 s.len, .int .i64 s.head, .int .i64 s.seq, .int .i64 s.head, .int .i64 s.seq, .int .i64 0, .bool false, .bool (decide ((s.epoch : Int) < 4294967296))]) rfl) ?_
    rintro _ w ⟨b2, rfl, H'⟩
    have H : Sep z (blk b2 [.pointer (some ⟨pd, 0, none⟩), .pointer (some ⟨pt, 0, none⟩), .int .i64 s.gen, .int .i64 s.epoch, .int .i64 s.pages, .int .i64 s.start, .int .i64 s.len, .int .i64 s.head, .int .i64 s.seq, .int .i64 s.head, .int .i64 s.seq, .int .i64 0, .bool false, .bool (decide ((s.epoch : Int) < 4294967296))] 77 :: blk b1 [.int .i64 s.gen, .int .i64 s.epoch, .int .i64 s.pages, .int .i64 s.start, .int .i64 s.len, .int .i64 s.head, .int .i64 s.seq] 33 :: blk pd [.slice (some ⟨bd, 0, none⟩) N N, .map (some m), .int .i64 f0, .int .i64 f1, .int .i64 f2, .int .i64 f3, .bool cut, .int .i64 lf] 74 :: R) w := H'
    clear H'
    refine s_do rfl rfl rfl (d_assign rfl rfl) ?_
    refine s_end ?_
    refine k_ret ?_
    refine doneL rfl [.pointer (some ⟨b2, 0, none⟩)] ⟨rfl, trivial⟩ (v := .pointer (some ⟨b2, 0, none⟩)) rfl ?_
    exact ⟨[blk b2 [.pointer (some ⟨pd, 0, none⟩), .pointer (some ⟨pt, 0, none⟩), .int .i64 s.gen, .int .i64 s.epoch, .int .i64 s.pages, .int .i64 s.start, .int .i64 s.len, .int .i64 s.head, .int .i64 s.seq, .int .i64 s.head, .int .i64 s.seq, .int .i64 0, .bool false, .bool (decide ((s.epoch : Int) < 4294967296))] 77, blk pd [.slice (some ⟨bd, 0, none⟩) N N, .map (some m), .int .i64 f0, .int .i64 f1, .int .i64 f2, .int .i64 f3, .bool cut, .int .i64 lf] 74], ⟨b2, rfl, rfl⟩, H.perm 3 [0, 2] rfl rfl⟩

theorem lnew_bad (pd bd m N : Nat) (f0 f1 f2 f3 lf : Int) (cut : Bool) (pt : Nat) (s : Sup) (hN : N ≤ 1152921504606846976) (hok : ¬ s.Ok ((N : Int) / 256)) : Cn Tryz.prog 8 [.pointer (some ⟨pd, 0, none⟩), .pointer (some ⟨pt, 0, none⟩), .agg #[.int .i64 s.gen, .int .i64 s.epoch, .int .i64 s.pages, .int .i64 s.start, .int .i64 s.len, .int .i64 s.head, .int .i64 s.seq]] [blk pd [.slice (some ⟨bd, 0, none⟩) N N, .map (some m), .int .i64 f0, .int .i64 f1, .int .i64 f2, .int .i64 f3, .bool cut, .int .i64 lf] 74] (fun v Γ => v = .pointer none ∧ Γ = [blk pd [.slice (some ⟨bd, 0, none⟩) N N, .map (some m), .int .i64 f0, .int .i64 f1, .int .i64 f2, .int .i64 f3, .bool cut, .int .i64 lf] 74]) := by
  intro z R w H'
  have H : Sep z (blk pd [.slice (some ⟨bd, 0, none⟩) N N, .map (some m), .int .i64 f0, .int .i64 f1, .int .i64 f2, .int .i64 f3, .bool cut, .int .i64 lf] 74 :: R) w := H'
  clear H'
  refine enter Tryz.func8 rfl 32 Tryz.ntmps8 rfl ?_
  refine k_seq ?_
  refine s_region ?_
  refine s_go rfl rfl rfl (n_box H rfl rfl (cs := [.int .i64 s.gen, .int .i64 s.epoch, .int .i64 s.pages, .int .i64 s.start, .int .i64 s.len, .int .i64 s.head, .int .i64 s.seq]) rfl) ?_
  rintro _ w ⟨b1, rfl, H'⟩
  have H : Sep z (blk b1 [.int .i64 s.gen, .int .i64 s.epoch, .int .i64 s.pages, .int .i64 s.start, .int .i64 s.len, .int .i64 s.head, .int .i64 s.seq] 33 :: blk pd [.slice (some ⟨bd, 0, none⟩) N N, .map (some m), .int .i64 f0, .int .i64 f1, .int .i64 f2, .int .i64 f3, .bool cut, .int .i64 lf] 74 :: R) w := H'
  clear H'
  refine s_do rfl rfl rfl (d_assign rfl rfl) ?_
  refine s_end ?_
  refine k_seq ?_
  refine k_seq ?_
  refine q_region (Sep z (blk b1 [.int .i64 s.gen, .int .i64 s.epoch, .int .i64 s.pages, .int .i64 s.start, .int .i64 s.len, .int .i64 s.head, .int .i64 s.seq] 33 :: blk pd [.slice (some ⟨bd, 0, none⟩) N N, .map (some m), .int .i64 f0, .int .i64 f1, .int .i64 f2, .int .i64 f3, .bool cut, .int .i64 lf] 74 :: R)) (by kernel_rfl) (by kernel_rfl) H.drew ?_
  refine q_do rfl rfl rfl (d_move rfl rfl) ?_
  refine q_do rfl rfl rfl (d_eql_pn rfl (by kernel_rfl) rfl rfl) ?_
  refine q_do rfl rfl rfl (d_move rfl rfl) ?_
  refine q_do rfl rfl rfl (d_move rfl rfl) ?_
  refine q_do rfl rfl rfl (d_eql_pn rfl (by kernel_rfl) rfl rfl) ?_
  refine q_do rfl rfl rfl (d_pick_f rfl rfl rfl) ?_
  refine q_do rfl rfl rfl (d_move rfl rfl) ?_
  refine q_do rfl rfl rfl (d_loadAgg rfl rfl (vs := [.int .i64 s.gen, .int .i64 s.epoch, .int .i64 s.pages, .int .i64 s.start, .int .i64 s.len, .int .i64 s.head, .int .i64 s.seq]) (by kernel_rfl) (fun _ hx => (hx.blk 0 rfl).part 0 7 _ rfl)) ?_
  refine q_do rfl rfl rfl (d_move rfl rfl) ?_
  refine q_call rfl rfl rfl rfl rfl (fun w => Tryz.call22 _ w) (v := .int .i64 ((N : Int) / 256)) (cq (size_c _ _ _ _ _ _ _ _ _ _ (by omega)) (by rintro _ _ ⟨rfl, rfl⟩; exact ⟨rfl, rfl⟩) 2 [1, 0] [1, 0] rfl rfl rfl rfl) ?_
  refine q_call rfl rfl rfl rfl rfl (fun w => Tryz.call21 _ w) (v := .int .i64 (if s.Ok ((N : Int) / 256) then 0 else 1)) (cq (check_c _ _ (by omega)) (by rintro _ _ ⟨rfl, rfl⟩; exact ⟨rfl, rfl⟩) 0 [] [] rfl rfl rfl rfl) ?_
  refine q_do rfl rfl rfl (d_neq rfl rfl rfl) ?_
  refine q_do rfl rfl rfl (d_pick_f rfl rfl rfl) ?_
  refine q_end (fun w H' => ?_)
  have H : Sep z (blk b1 [.int .i64 s.gen, .int .i64 s.epoch, .int .i64 s.pages, .int .i64 s.start, .int .i64 s.len, .int .i64 s.head, .int .i64 s.seq] 33 :: blk pd [.slice (some ⟨bd, 0, none⟩) N N, .map (some m), .int .i64 f0, .int .i64 f1, .int .i64 f2, .int .i64 f3, .bool cut, .int .i64 lf] 74 :: R) w := H'
  clear H'
  refine k_dec rfl (fun h1 => ?_) (fun h1 => ?_)
  · -- yes: (if s.Ok ((N : Int) / 256) then 0 else 1) ≠ 0
    refine k_seq ?_
    refine s_region ?_
    refine s_do rfl rfl rfl (d_assign rfl rfl) ?_
    refine s_end ?_
    refine k_ret ?_
    refine doneL rfl [.pointer none] ⟨rfl, trivial⟩ (v := .pointer none) rfl ?_
    exact ⟨[blk pd [.slice (some ⟨bd, 0, none⟩) N N, .map (some m), .int .i64 f0, .int .i64 f1, .int .i64 f2, .int .i64 f3, .bool cut, .int .i64 lf] 74], ⟨rfl, rfl⟩, H.perm 2 [1] rfl rfl⟩
  · exact absurd (by rw [if_neg hok]; decide) h1

theorem lnew_nd (pt : Nat) (s : Sup) : Cn Tryz.prog 8 [.pointer none, .pointer (some ⟨pt, 0, none⟩), .agg #[.int .i64 s.gen, .int .i64 s.epoch, .int .i64 s.pages, .int .i64 s.start, .int .i64 s.len, .int .i64 s.head, .int .i64 s.seq]] [] (fun v Γ => v = .pointer none ∧ Γ = []) := by
  intro z R w H'
  have H : Sep z (R) w := H'
  clear H'
  refine enter Tryz.func8 rfl 32 Tryz.ntmps8 rfl ?_
  refine k_seq ?_
  refine s_region ?_
  refine s_go rfl rfl rfl (n_box H rfl rfl (cs := [.int .i64 s.gen, .int .i64 s.epoch, .int .i64 s.pages, .int .i64 s.start, .int .i64 s.len, .int .i64 s.head, .int .i64 s.seq]) rfl) ?_
  rintro _ w ⟨b1, rfl, H'⟩
  have H : Sep z (blk b1 [.int .i64 s.gen, .int .i64 s.epoch, .int .i64 s.pages, .int .i64 s.start, .int .i64 s.len, .int .i64 s.head, .int .i64 s.seq] 33 :: R) w := H'
  clear H'
  refine s_do rfl rfl rfl (d_assign rfl rfl) ?_
  refine s_end ?_
  refine k_seq ?_
  refine k_seq ?_
  refine q_region (Sep z (blk b1 [.int .i64 s.gen, .int .i64 s.epoch, .int .i64 s.pages, .int .i64 s.start, .int .i64 s.len, .int .i64 s.head, .int .i64 s.seq] 33 :: R)) (by kernel_rfl) (by kernel_rfl) H.drew ?_
  refine q_do rfl rfl rfl (d_move rfl rfl) ?_
  refine q_do rfl rfl rfl (d_eql_nn rfl (by kernel_rfl) rfl rfl) ?_
  refine q_do rfl rfl rfl (d_move rfl rfl) ?_
  refine q_skip rfl rfl rfl ?_
  refine q_skip rfl rfl rfl ?_
  refine q_do rfl rfl rfl (d_pick_t rfl rfl rfl) ?_
  refine q_do rfl rfl rfl (d_move rfl rfl) ?_
  refine q_skip rfl rfl rfl ?_
  refine q_skip rfl rfl rfl ?_
  refine q_skip rfl rfl rfl ?_
  refine q_skip rfl rfl rfl ?_
  refine q_skip rfl rfl rfl ?_
  refine q_do rfl rfl rfl (d_pick_t rfl rfl rfl) ?_
  refine q_end (fun w H' => ?_)
  have H : Sep z (blk b1 [.int .i64 s.gen, .int .i64 s.epoch, .int .i64 s.pages, .int .i64 s.start, .int .i64 s.len, .int .i64 s.head, .int .i64 s.seq] 33 :: R) w := H'
  clear H'
  refine k_true rfl ?_
  refine k_seq ?_
  refine s_region ?_
  refine s_do rfl rfl rfl (d_assign rfl rfl) ?_
  refine s_end ?_
  refine k_ret ?_
  refine doneL rfl [.pointer none] ⟨rfl, trivial⟩ (v := .pointer none) rfl ?_
  exact ⟨[], ⟨rfl, rfl⟩, H.perm 1 [] rfl rfl⟩

theorem lnew_nt (pd : Nat) (s : Sup) : Cn Tryz.prog 8 [.pointer (some ⟨pd, 0, none⟩), .pointer none, .agg #[.int .i64 s.gen, .int .i64 s.epoch, .int .i64 s.pages, .int .i64 s.start, .int .i64 s.len, .int .i64 s.head, .int .i64 s.seq]] [] (fun v Γ => v = .pointer none ∧ Γ = []) := by
  intro z R w H'
  have H : Sep z (R) w := H'
  clear H'
  refine enter Tryz.func8 rfl 32 Tryz.ntmps8 rfl ?_
  refine k_seq ?_
  refine s_region ?_
  refine s_go rfl rfl rfl (n_box H rfl rfl (cs := [.int .i64 s.gen, .int .i64 s.epoch, .int .i64 s.pages, .int .i64 s.start, .int .i64 s.len, .int .i64 s.head, .int .i64 s.seq]) rfl) ?_
  rintro _ w ⟨b1, rfl, H'⟩
  have H : Sep z (blk b1 [.int .i64 s.gen, .int .i64 s.epoch, .int .i64 s.pages, .int .i64 s.start, .int .i64 s.len, .int .i64 s.head, .int .i64 s.seq] 33 :: R) w := H'
  clear H'
  refine s_do rfl rfl rfl (d_assign rfl rfl) ?_
  refine s_end ?_
  refine k_seq ?_
  refine k_seq ?_
  refine q_region (Sep z (blk b1 [.int .i64 s.gen, .int .i64 s.epoch, .int .i64 s.pages, .int .i64 s.start, .int .i64 s.len, .int .i64 s.head, .int .i64 s.seq] 33 :: R)) (by kernel_rfl) (by kernel_rfl) H.drew ?_
  refine q_do rfl rfl rfl (d_move rfl rfl) ?_
  refine q_do rfl rfl rfl (d_eql_pn rfl (by kernel_rfl) rfl rfl) ?_
  refine q_do rfl rfl rfl (d_move rfl rfl) ?_
  refine q_do rfl rfl rfl (d_move rfl rfl) ?_
  refine q_do rfl rfl rfl (d_eql_nn rfl (by kernel_rfl) rfl rfl) ?_
  refine q_do rfl rfl rfl (d_pick_f rfl rfl rfl) ?_
  refine q_do rfl rfl rfl (d_move rfl rfl) ?_
  refine q_skip rfl rfl rfl ?_
  refine q_skip rfl rfl rfl ?_
  refine q_skip rfl rfl rfl ?_
  refine q_skip rfl rfl rfl ?_
  refine q_skip rfl rfl rfl ?_
  refine q_do rfl rfl rfl (d_pick_t rfl rfl rfl) ?_
  refine q_end (fun w H' => ?_)
  have H : Sep z (blk b1 [.int .i64 s.gen, .int .i64 s.epoch, .int .i64 s.pages, .int .i64 s.start, .int .i64 s.len, .int .i64 s.head, .int .i64 s.seq] 33 :: R) w := H'
  clear H'
  refine k_true rfl ?_
  refine k_seq ?_
  refine s_region ?_
  refine s_do rfl rfl rfl (d_assign rfl rfl) ?_
  refine s_end ?_
  refine k_ret ?_
  refine doneL rfl [.pointer none] ⟨rfl, trivial⟩ (v := .pointer none) rfl ?_
  exact ⟨[], ⟨rfl, rfl⟩, H.perm 1 [] rfl rfl⟩
end Go.Proofs.YtanejicgmgpjcaaGreatDoor
