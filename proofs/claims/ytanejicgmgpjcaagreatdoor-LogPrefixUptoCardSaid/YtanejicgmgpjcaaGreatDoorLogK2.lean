/-
  Walks: heads put. No condition.
-/
import Derived.Test.YtanejicgmgpjcaaGreatDoorLogJ
set_option maxRecDepth 100000
namespace Go.Proofs.YtanejicgmgpjcaaGreatDoor
open Go.RowKit
theorem putHead_c (pt : Nat) (e s : Int) (u : UInt32) (pv : Value) (ns : List Int) (A : Asn) (hA : ∀ h, A h → rdH 1 pv ns.length (ns.map (Value.int .i64)) h) : Cn Tryz.prog 36 [.pointer (some ⟨pt, 0, none⟩), .agg #[.int .i64 e, .int .i64 s, pv, u32 u]] [tblA pt, A] (fun v Γ => (¬ ((0 ≤ e ∧ e ≤ 1099511627776) ∧ (0 ≤ s ∧ s ≤ 1099511627776) ∧ (1 ≤ ns.length ∧ ns.length ≤ 40) ∧ ∀ x ∈ ns, 0 ≤ x ∧ x ≤ 1023) ∧ v = .tuple #[.slice none 0 0, .int .i64 1] ∧ Γ = [tblA pt, A]) ∨ (((0 ≤ e ∧ e ≤ 1099511627776) ∧ (0 ≤ s ∧ s ≤ 1099511627776) ∧ (1 ≤ ns.length ∧ ns.length ≤ 40) ∧ ∀ x ∈ ns, 0 ≤ x ∧ x ≤ 1023) ∧ ∃ pw, v = .tuple #[.slice (some ⟨pw, 0, none⟩) 256 256, .int .i64 0] ∧ Γ = [blk pw (wrC (sect ([80, 76, 79, 71] ++ beN 8 e ++ beN 8 s ++ beN 4 (u.toNat : Int) ++ beN 2 (ns.length : Int) ++ ns.flatMap (beN 4))) ((26 + 4 * ns.length : Nat) : Int)) 118, tblA pt, A])) := by
  intro z R w H'
  have H : Sep z (tblA pt :: A :: R) w := H'
  clear H'
  obtain ⟨ao, pc, rfl⟩ := H.says 1 rfl (fun h q => (hA h q).slc)
  have hul := u.toNat_lt
  refine enter Tryz.func36 rfl 65 Tryz.ntmps36 rfl ?_
  refine k_seq ?_
  refine s_region ?_
  refine s_go rfl rfl rfl (n_box H rfl rfl (cs := [.int .i64 e, .int .i64 s, .slice ao ns.length pc, u32 u]) rfl) ?_
  rintro _ w ⟨b1, rfl, H'⟩
  have H : Sep z (blk b1 [.int .i64 e, .int .i64 s, .slice ao ns.length pc, u32 u] 100 :: tblA pt :: A :: R) w := H'
  clear H'
  refine s_do rfl rfl rfl (d_assign rfl rfl) ?_
  refine s_do rfl rfl rfl (d_assign rfl rfl) ?_
  refine s_end ?_
  refine k_seq ?_
  refine k_seq ?_
  refine s_region ?_
  refine s_do rfl rfl rfl (d_move rfl rfl) ?_
  refine s_do rfl rfl rfl (d_eql_pn rfl (by kernel_rfl) rfl rfl) ?_
  refine s_do rfl rfl rfl (d_move rfl rfl) ?_
  refine s_do rfl rfl rfl (d_field rfl (k := 0) (r := 0) (by kernel_rfl) rfl rfl) ?_
  refine s_do rfl rfl rfl (d_load rfl rfl (by kernel_rfl) (here (H.cel 0 rfl 0 rfl))) ?_
  refine s_callC rfl rfl rfl rfl rfl (fun w => Tryz.call47 _ w) (in_c _ _) H 0 [] rfl rfl ?_
  rintro _ w _ ⟨rfl, rfl⟩ H'
  have H : Sep z (blk b1 [.int .i64 e, .int .i64 s, .slice ao ns.length pc, u32 u] 100 :: tblA pt :: A :: R) w := H'
  clear H'
  refine s_do rfl rfl rfl (d_not_dec rfl rfl) ?_
  refine s_do rfl rfl rfl (d_pick_f rfl rfl rfl) ?_
  refine s_do rfl rfl rfl (d_move rfl rfl) ?_
  refine s_part 17 rfl (fun h1 => ?_) (fun h1 => ?_)
  · -- yes: ¬ ((0 : Int) ≤ e ∧ e ≤ 1099511627776)
    refine s_skip rfl rfl rfl ?_
    refine s_skip rfl rfl rfl ?_
    refine s_skip rfl rfl rfl ?_
    refine s_skip rfl rfl rfl ?_
    refine s_do rfl rfl rfl (d_pick_t rfl rfl rfl) ?_
    refine s_do rfl rfl rfl (d_move rfl rfl) ?_
    refine s_skip rfl rfl rfl ?_
    refine s_skip rfl rfl rfl ?_
    refine s_skip rfl rfl rfl ?_
    refine s_skip rfl rfl rfl ?_
    refine s_do rfl rfl rfl (d_pick_t rfl rfl rfl) ?_
    refine s_do rfl rfl rfl (d_move rfl rfl) ?_
    refine s_skip rfl rfl rfl ?_
    refine s_skip rfl rfl rfl ?_
    refine s_skip rfl rfl rfl ?_
    refine s_skip rfl rfl rfl ?_
    refine s_do rfl rfl rfl (d_pick_t rfl rfl rfl) ?_
    refine s_end ?_
    refine k_true rfl ?_
    refine k_seq ?_
    refine s_region ?_
    refine s_do rfl rfl rfl (d_assign rfl rfl) ?_
    refine s_do rfl rfl rfl (d_assign rfl rfl) ?_
    refine s_end ?_
    refine k_ret ?_
    refine doneL rfl [.slice none 0 0, .int .i64 1] ⟨rfl, ⟨rfl, trivial⟩⟩ (v := .tuple #[.slice none 0 0, .int .i64 1]) rfl ?_
    exact ⟨[tblA pt, A], .inl ⟨by rintro ⟨q1, q2, q3, q4⟩; first | omega | exact absurd (q4 x (List.mem_of_getElem? hx)) ‹_›, rfl, rfl⟩, H.perm 3 [1, 2] rfl rfl⟩
  · -- no: ¬ ((0 : Int) ≤ e ∧ e ≤ 1099511627776)
    refine s_do rfl rfl rfl (d_field rfl (k := 1) (r := 1) (by kernel_rfl) rfl rfl) ?_
    refine s_do rfl rfl rfl (d_load rfl rfl (by kernel_rfl) (here (H.cel 0 rfl 1 rfl))) ?_
    refine s_callC rfl rfl rfl rfl rfl (fun w => Tryz.call47 _ w) (in_c _ _) H 0 [] rfl rfl ?_
    rintro _ w _ ⟨rfl, rfl⟩ H'
    have H : Sep z (blk b1 [.int .i64 e, .int .i64 s, .slice ao ns.length pc, u32 u] 100 :: tblA pt :: A :: R) w := H'
    clear H'
    refine s_do rfl rfl rfl (d_not_dec rfl rfl) ?_
    refine s_do rfl rfl rfl (d_pick_f rfl rfl rfl) ?_
    refine s_do rfl rfl rfl (d_move rfl rfl) ?_
    refine s_part 23 rfl (fun h2 => ?_) (fun h2 => ?_)
    · -- yes: ¬ ((0 : Int) ≤ s ∧ s ≤ 1099511627776)
      refine s_skip rfl rfl rfl ?_
      refine s_skip rfl rfl rfl ?_
      refine s_skip rfl rfl rfl ?_
      refine s_skip rfl rfl rfl ?_
      refine s_do rfl rfl rfl (d_pick_t rfl rfl rfl) ?_
      refine s_do rfl rfl rfl (d_move rfl rfl) ?_
      refine s_skip rfl rfl rfl ?_
      refine s_skip rfl rfl rfl ?_
      refine s_skip rfl rfl rfl ?_
      refine s_skip rfl rfl rfl ?_
      refine s_do rfl rfl rfl (d_pick_t rfl rfl rfl) ?_
      refine s_end ?_
      refine k_true rfl ?_
      refine k_seq ?_
      refine s_region ?_
      refine s_do rfl rfl rfl (d_assign rfl rfl) ?_
      refine s_do rfl rfl rfl (d_assign rfl rfl) ?_
      refine s_end ?_
      refine k_ret ?_
      refine doneL rfl [.slice none 0 0, .int .i64 1] ⟨rfl, ⟨rfl, trivial⟩⟩ (v := .tuple #[.slice none 0 0, .int .i64 1]) rfl ?_
      exact ⟨[tblA pt, A], .inl ⟨by rintro ⟨q1, q2, q3, q4⟩; first | omega | exact absurd (q4 x (List.mem_of_getElem? hx)) ‹_›, rfl, rfl⟩, H.perm 3 [1, 2] rfl rfl⟩
    · -- no: ¬ ((0 : Int) ≤ s ∧ s ≤ 1099511627776)
      refine s_do rfl rfl rfl (d_field rfl (k := 2) (r := 2) (by kernel_rfl) rfl rfl) ?_
      refine s_do rfl rfl rfl (d_load rfl rfl (by kernel_rfl) (here (H.cel 0 rfl 2 rfl))) ?_
      refine s_do rfl rfl rfl (d_len rfl (z := 1) (by kernel_rfl) rfl) ?_
      refine s_do rfl rfl rfl (d_eql rfl rfl rfl) ?_
      refine s_do rfl rfl rfl (d_pick_f rfl rfl rfl) ?_
      refine s_do rfl rfl rfl (d_move rfl rfl) ?_
      refine s_part 29 rfl (fun h3 => ?_) (fun h3 => ?_)
      · -- yes: (ns.length : Int) = 0
        refine s_skip rfl rfl rfl ?_
        refine s_skip rfl rfl rfl ?_
        refine s_skip rfl rfl rfl ?_
        refine s_skip rfl rfl rfl ?_
        refine s_do rfl rfl rfl (d_pick_t rfl rfl rfl) ?_
        refine s_end ?_
        refine k_true rfl ?_
        refine k_seq ?_
        refine s_region ?_
        refine s_do rfl rfl rfl (d_assign rfl rfl) ?_
        refine s_do rfl rfl rfl (d_assign rfl rfl) ?_
        refine s_end ?_
        refine k_ret ?_
        refine doneL rfl [.slice none 0 0, .int .i64 1] ⟨rfl, ⟨rfl, trivial⟩⟩ (v := .tuple #[.slice none 0 0, .int .i64 1]) rfl ?_
        exact ⟨[tblA pt, A], .inl ⟨by rintro ⟨q1, q2, q3, q4⟩; first | omega | exact absurd (q4 x (List.mem_of_getElem? hx)) ‹_›, rfl, rfl⟩, H.perm 3 [1, 2] rfl rfl⟩
      · -- no: (ns.length : Int) = 0
        refine s_do rfl rfl rfl (d_field rfl (k := 2) (r := 2) (by kernel_rfl) rfl rfl) ?_
        refine s_do rfl rfl rfl (d_load rfl rfl (by kernel_rfl) (here (H.cel 0 rfl 2 rfl))) ?_
        refine s_do rfl rfl rfl (d_len rfl (z := 1) (by kernel_rfl) rfl) ?_
        refine s_do rfl rfl rfl (d_gtr rfl rfl rfl) ?_
        refine s_do rfl rfl rfl (d_pick_f rfl rfl rfl) ?_
        refine s_end ?_
        refine k_dec rfl (fun h4 => ?_) (fun h4 => ?_)
        · -- yes: (40 : Int) < (ns.length : Int)
          refine k_seq ?_
          refine s_region ?_
          refine s_do rfl rfl rfl (d_assign rfl rfl) ?_
          refine s_do rfl rfl rfl (d_assign rfl rfl) ?_
          refine s_end ?_
          refine k_ret ?_
          refine doneL rfl [.slice none 0 0, .int .i64 1] ⟨rfl, ⟨rfl, trivial⟩⟩ (v := .tuple #[.slice none 0 0, .int .i64 1]) rfl ?_
          exact ⟨[tblA pt, A], .inl ⟨by rintro ⟨q1, q2, q3, q4⟩; first | omega | exact absurd (q4 x (List.mem_of_getElem? hx)) ‹_›, rfl, rfl⟩, H.perm 3 [1, 2] rfl rfl⟩
        · -- no: (40 : Int) < (ns.length : Int)
          have hn40 : ns.length ≤ 40 := by omega
          refine k_skip ?_
          refine k_seq ?_
          refine s_region ?_
          refine s_go rfl rfl rfl (n_alloc (P := Tryz.prog) H rfl (zs := (wrC (pad []) 0)) (by kernel_rfl)) ?_
          rintro _ w ⟨b2, rfl, H'⟩
          have H : Sep z (blk b2 (wrC (pad ([])) 0) 118 :: blk b1 [.int .i64 e, .int .i64 s, .slice ao ns.length pc, u32 u] 100 :: tblA pt :: A :: R) w := H'
          clear H'
          refine s_end ?_
          refine k_seq ?_
          refine s_region ?_
          refine s_callC rfl rfl rfl rfl rfl (fun w => Tryz.call48 _ w) (text_c _ 0 [80, 76, 79, 71] _ (pad_len (by first | omega | (simp [beN_len, flat_len, -List.length_flatMap] <;> omega))) (by first | omega | (simp <;> omega))) H 1 [0] rfl rfl ?_
          rintro _ w _ ⟨rfl, rfl⟩ H'
          have H : Sep z (blk b2 (wrC (wrAll (pad ([])) ([80, 76, 79, 71]) 0) 4) 118 :: blk b1 [.int .i64 e, .int .i64 s, .slice ao ns.length pc, u32 u] 100 :: tblA pt :: A :: R) w := H'
          clear H'
          rw [show wrAll (pad []) ([80, 76, 79, 71]) 0 = pad ([80, 76, 79, 71]) from pad_put rfl (by first | omega | (simp [beN_len, flat_len, -List.length_flatMap] <;> omega))] at H
          have H : Sep z (blk b2 (wrC (pad ([80, 76, 79, 71])) 4) 118 :: blk b1 [.int .i64 e, .int .i64 s, .slice ao ns.length pc, u32 u] 100 :: tblA pt :: A :: R) w := H
          refine s_end ?_
          refine k_seq ?_
          refine s_region ?_
          refine s_do rfl rfl rfl (d_field rfl (k := 0) (r := 0) (by kernel_rfl) rfl rfl) ?_
          refine s_do rfl rfl rfl (d_load rfl rfl (by kernel_rfl) (here (H.cel 1 rfl 0 rfl))) ?_
          refine s_callC rfl rfl rfl rfl rfl (fun w => Tryz.call49 _ w) (put_c _ 4 8 e _ (pad_len (by first | omega | (simp [beN_len, flat_len, -List.length_flatMap] <;> omega))) (by omega)) H 1 [0] rfl rfl ?_
          rintro _ w _ ⟨rfl, rfl⟩ H'
          have H : Sep z (blk b2 (wrC (wrAll (pad ([80, 76, 79, 71])) (beN 8 e) 4) 12) 118 :: blk b1 [.int .i64 e, .int .i64 s, .slice ao ns.length pc, u32 u] 100 :: tblA pt :: A :: R) w := H'
          clear H'
          rw [show wrAll (pad ([80, 76, 79, 71])) (beN 8 e) 4 = pad ([80, 76, 79, 71] ++ beN 8 e) from pad_put (by first | omega | (simp [beN_len, flat_len, -List.length_flatMap] <;> omega)) (by first | omega | (simp [beN_len, flat_len, -List.length_flatMap] <;> omega))] at H
          have H : Sep z (blk b2 (wrC (pad ([80, 76, 79, 71] ++ beN 8 e)) 12) 118 :: blk b1 [.int .i64 e, .int .i64 s, .slice ao ns.length pc, u32 u] 100 :: tblA pt :: A :: R) w := H
          refine s_end ?_
          refine k_seq ?_
          refine s_region ?_
          refine s_do rfl rfl rfl (d_field rfl (k := 1) (r := 1) (by kernel_rfl) rfl rfl) ?_
          refine s_do rfl rfl rfl (d_load rfl rfl (by kernel_rfl) (here (H.cel 1 rfl 1 rfl))) ?_
          refine s_callC rfl rfl rfl rfl rfl (fun w => Tryz.call49 _ w) (put_c _ 12 8 s _ (pad_len (by first | omega | (simp [beN_len, flat_len, -List.length_flatMap] <;> omega))) (by omega)) H 1 [0] rfl rfl ?_
          rintro _ w _ ⟨rfl, rfl⟩ H'
          have H : Sep z (blk b2 (wrC (wrAll (pad ([80, 76, 79, 71] ++ beN 8 e)) (beN 8 s) 12) 20) 118 :: blk b1 [.int .i64 e, .int .i64 s, .slice ao ns.length pc, u32 u] 100 :: tblA pt :: A :: R) w := H'
          clear H'
          rw [show wrAll (pad ([80, 76, 79, 71] ++ beN 8 e)) (beN 8 s) 12 = pad ([80, 76, 79, 71] ++ beN 8 e ++ beN 8 s) from pad_put (by first | omega | (simp [beN_len, flat_len, -List.length_flatMap] <;> omega)) (by first | omega | (simp [beN_len, flat_len, -List.length_flatMap] <;> omega))] at H
          have H : Sep z (blk b2 (wrC (pad ([80, 76, 79, 71] ++ beN 8 e ++ beN 8 s)) 20) 118 :: blk b1 [.int .i64 e, .int .i64 s, .slice ao ns.length pc, u32 u] 100 :: tblA pt :: A :: R) w := H
          refine s_end ?_
          refine k_seq ?_
          refine s_region ?_
          refine s_do rfl rfl rfl (d_field rfl (k := 3) (r := 3) (by kernel_rfl) rfl rfl) ?_
          refine s_do rfl rfl rfl (d_load rfl rfl (by kernel_rfl) (here (H.cel 1 rfl 3 rfl))) ?_
          refine s_do rfl rfl rfl (d_of32 rfl (by kernel_rfl) rfl) ?_
          refine s_callC rfl rfl rfl rfl rfl (fun w => Tryz.call49 _ w) (put_c _ 20 4 (u.toNat : Int) _ (pad_len (by first | omega | (simp [beN_len, flat_len, -List.length_flatMap] <;> omega))) (by omega)) H 1 [0] rfl rfl ?_
          rintro _ w _ ⟨rfl, rfl⟩ H'
          have H : Sep z (blk b2 (wrC (wrAll (pad ([80, 76, 79, 71] ++ beN 8 e ++ beN 8 s)) (beN 4 (u.toNat : Int)) 20) 24) 118 :: blk b1 [.int .i64 e, .int .i64 s, .slice ao ns.length pc, u32 u] 100 :: tblA pt :: A :: R) w := H'
          clear H'
          rw [show wrAll (pad ([80, 76, 79, 71] ++ beN 8 e ++ beN 8 s)) (beN 4 (u.toNat : Int)) 20 = pad ([80, 76, 79, 71] ++ beN 8 e ++ beN 8 s ++ beN 4 (u.toNat : Int)) from pad_put (by first | omega | (simp [beN_len, flat_len, -List.length_flatMap] <;> omega)) (by first | omega | (simp [beN_len, flat_len, -List.length_flatMap] <;> omega))] at H
          have H : Sep z (blk b2 (wrC (pad ([80, 76, 79, 71] ++ beN 8 e ++ beN 8 s ++ beN 4 (u.toNat : Int))) 24) 118 :: blk b1 [.int .i64 e, .int .i64 s, .slice ao ns.length pc, u32 u] 100 :: tblA pt :: A :: R) w := H
          refine s_end ?_
          refine k_seq ?_
          refine s_region ?_
          refine s_do rfl rfl rfl (d_field rfl (k := 2) (r := 2) (by kernel_rfl) rfl rfl) ?_
          refine s_do rfl rfl rfl (d_load rfl rfl (by kernel_rfl) (here (H.cel 1 rfl 2 rfl))) ?_
          refine s_do rfl rfl rfl (d_len rfl (z := 1) (by kernel_rfl) rfl) ?_
          refine s_callC rfl rfl rfl rfl rfl (fun w => Tryz.call49 _ w) (put_c _ 24 2 (ns.length : Int) _ (pad_len (by first | omega | (simp [beN_len, flat_len, -List.length_flatMap] <;> omega))) (by omega)) H 1 [0] rfl rfl ?_
          rintro _ w _ ⟨rfl, rfl⟩ H'
          have H : Sep z (blk b2 (wrC (wrAll (pad ([80, 76, 79, 71] ++ beN 8 e ++ beN 8 s ++ beN 4 (u.toNat : Int))) (beN 2 (ns.length : Int)) 24) 26) 118 :: blk b1 [.int .i64 e, .int .i64 s, .slice ao ns.length pc, u32 u] 100 :: tblA pt :: A :: R) w := H'
          clear H'
          rw [show wrAll (pad ([80, 76, 79, 71] ++ beN 8 e ++ beN 8 s ++ beN 4 (u.toNat : Int))) (beN 2 (ns.length : Int)) 24 = pad ([80, 76, 79, 71] ++ beN 8 e ++ beN 8 s ++ beN 4 (u.toNat : Int) ++ beN 2 (ns.length : Int)) from pad_put (by first | omega | (simp [beN_len, flat_len, -List.length_flatMap] <;> omega)) (by first | omega | (simp [beN_len, flat_len, -List.length_flatMap] <;> omega))] at H
          have H : Sep z (blk b2 (wrC (pad ([80, 76, 79, 71] ++ beN 8 e ++ beN 8 s ++ beN 4 (u.toNat : Int) ++ beN 2 (ns.length : Int))) 26) 118 :: blk b1 [.int .i64 e, .int .i64 s, .slice ao ns.length pc, u32 u] 100 :: tblA pt :: A :: R) w := H
          refine s_end ?_
          refine k_seq ?_
          refine k_seq ?_
          refine s_region ?_
          refine s_do rfl rfl rfl (d_field rfl (k := 2) (r := 2) (by kernel_rfl) rfl rfl) ?_
          refine s_do rfl rfl rfl (d_load rfl rfl (by kernel_rfl) (here (H.cel 1 rfl 2 rfl))) ?_
          refine s_do rfl rfl rfl (d_len rfl (z := 1) (by kernel_rfl) rfl) ?_
          refine s_do rfl rfl rfl (d_move rfl rfl) ?_
          refine s_end ?_
          refine k_block ?_
          refine c_loop (σ := Nat) (fun i => [(53, .int .i64 (i : Int)), (0, .pointer (some ⟨pt, 0, none⟩)), (6, .pointer (some ⟨b2, 0, none⟩)), (51, .slice ao ns.length pc), (52, .int .i64 (ns.length : Int))])
            (fun i w => Sep z (blk b2 (wrC (pad ([80, 76, 79, 71] ++ beN 8 e ++ beN 8 s ++ beN 4 (u.toNat : Int) ++ beN 2 (ns.length : Int) ++ (ns.take i).flatMap (beN 4))) ((26 + 4 * i : Nat) : Int)) 118 :: blk b1 [.int .i64 e, .int .i64 s, .slice ao ns.length pc, u32 u] 100 :: tblA pt :: A :: R) w ∧ (i ≤ ns.length ∧ ∀ (j : Nat) (x : Int), j < i → ns[j]? = some x → 0 ≤ x ∧ x ≤ 1023)) (fun i => ns.length - i) 0
            (fun _ hF => (hF.cons (hF.cons (hF.cons (hF.cons (hF.cons hF.nil 52 _ _ rfl rfl) 51 _ _ rfl rfl) 6 _ _ rfl rfl) 0 _ _ rfl rfl) 53 _ _ rfl (by go_num))) ⟨(by simpa using H), by omega, fun j x h => by omega⟩ ?_
          clear H; rintro i w ⟨H', hI⟩
          have H : Sep z (blk b2 (wrC (pad ([80, 76, 79, 71] ++ beN 8 e ++ beN 8 s ++ beN 4 (u.toNat : Int) ++ beN 2 (ns.length : Int) ++ (ns.take i).flatMap (beN 4))) ((26 + 4 * i : Nat) : Int)) 118 :: blk b1 [.int .i64 e, .int .i64 s, .slice ao ns.length pc, u32 u] 100 :: tblA pt :: A :: R) w := H'
          clear H'
          obtain ⟨hin, hall⟩ := hI
          refine k_seq ?_
          refine s_region ?_
          refine s_do rfl rfl rfl (d_lss rfl rfl rfl) ?_
          refine s_end ?_
          refine k_seq ?_
          refine k_dec rfl (fun h5 => ?_) (fun h5 => ?_)
          · -- yes: (i : Int) < (ns.length : Int)
            obtain ⟨x, hx⟩ : ∃ x, ns[i]? = some x := ⟨_, List.getElem?_eq_getElem (by omega)⟩
            refine k_skip ?_
            refine k_seq ?_
            refine k_block ?_
            refine k_seq ?_
            refine s_region ?_
            have hat := (H.rd 3 rfl hA).at (j := i) (u := .int .i64 x) (by simp [hx])
            refine s_do rfl rfl rfl (d_indexE rfl (z := 1) (j := i) (r := i) (by kernel_rfl) rfl rfl rfl (by omega) hat (by omega)) ?_
            refine s_do rfl rfl rfl (d_loadE rfl rfl (by kernel_rfl) (here hat)) ?_
            refine s_do rfl rfl rfl (d_assign rfl rfl) ?_
            refine s_end ?_
            refine k_seq ?_
            refine k_seq ?_
            refine s_region ?_
            refine s_do rfl rfl rfl (d_move rfl rfl) ?_
            refine s_callC rfl rfl rfl rfl rfl (fun w => Tryz.call47 _ w) (in_c _ _) H 0 [] rfl rfl ?_
            rintro _ w _ ⟨rfl, rfl⟩ H'
            have H : Sep z (blk b2 (wrC (pad ([80, 76, 79, 71] ++ beN 8 e ++ beN 8 s ++ beN 4 (u.toNat : Int) ++ beN 2 (ns.length : Int) ++ (ns.take i).flatMap (beN 4))) ((26 + 4 * i : Nat) : Int)) 118 :: blk b1 [.int .i64 e, .int .i64 s, .slice ao ns.length pc, u32 u] 100 :: tblA pt :: A :: R) w := H'
            clear H'
            refine s_do rfl rfl rfl (d_not_dec rfl rfl) ?_
            refine s_end ?_
            refine k_dec rfl (fun h6 => ?_) (fun h6 => ?_)
            · -- yes: ¬ ((0 : Int) ≤ x ∧ x ≤ 1023)
              refine k_seq ?_
              refine s_region ?_
              refine s_do rfl rfl rfl (d_assign rfl rfl) ?_
              refine s_do rfl rfl rfl (d_assign rfl rfl) ?_
              refine s_end ?_
              refine k_ret ?_
              refine doneL rfl [.slice none 0 0, .int .i64 1] ⟨rfl, ⟨rfl, trivial⟩⟩ (v := .tuple #[.slice none 0 0, .int .i64 1]) rfl ?_
              exact ⟨[tblA pt, A], .inl ⟨by rintro ⟨q1, q2, q3, q4⟩; first | omega | exact absurd (q4 x (List.mem_of_getElem? hx)) ‹_›, rfl, rfl⟩, H.perm 4 [2, 3] rfl rfl⟩
            · -- no: ¬ ((0 : Int) ≤ x ∧ x ≤ 1023)
              refine k_skip ?_
              refine s_region ?_
              refine s_do rfl rfl rfl (d_move rfl rfl) ?_
              refine s_callC rfl rfl rfl rfl rfl (fun w => Tryz.call49 _ w) (put_c _ (26 + 4 * i) 4 x _ (pad_len (by first | omega | (simp [beN_len, flat_len, -List.length_flatMap] <;> omega))) (by omega)) H 1 [0] rfl rfl ?_
              rintro _ w _ ⟨rfl, rfl⟩ H'
              have H : Sep z (blk b2 (wrC (wrAll (pad ([80, 76, 79, 71] ++ beN 8 e ++ beN 8 s ++ beN 4 (u.toNat : Int) ++ beN 2 (ns.length : Int) ++ (ns.take i).flatMap (beN 4))) (beN 4 x) (26 + 4 * i)) ((26 + 4 * i + 4 : Nat) : Int)) 118 :: blk b1 [.int .i64 e, .int .i64 s, .slice ao ns.length pc, u32 u] 100 :: tblA pt :: A :: R) w := H'
              clear H'
              rw [show ((26 + 4 * i + 4 : Nat) : Int) = (((26 + 4 * (i + 1) : Nat) : Int) : Int) from by omega] at H
              rw [show wrAll (pad ([80, 76, 79, 71] ++ beN 8 e ++ beN 8 s ++ beN 4 (u.toNat : Int) ++ beN 2 (ns.length : Int) ++ (ns.take i).flatMap (beN 4))) (beN 4 x) (26 + 4 * i) = pad ([80, 76, 79, 71] ++ beN 8 e ++ beN 8 s ++ beN 4 (u.toNat : Int) ++ beN 2 (ns.length : Int) ++ (ns.take i).flatMap (beN 4) ++ beN 4 x) from pad_put (by first | omega | (simp [beN_len, flat_len, -List.length_flatMap] <;> omega)) (by first | omega | (simp [beN_len, flat_len, -List.length_flatMap] <;> omega))] at H
              have H : Sep z (blk b2 (wrC (pad ([80, 76, 79, 71] ++ beN 8 e ++ beN 8 s ++ beN 4 (u.toNat : Int) ++ beN 2 (ns.length : Int) ++ (ns.take i).flatMap (beN 4) ++ beN 4 x)) ((26 + 4 * (i + 1) : Nat) : Int)) 118 :: blk b1 [.int .i64 e, .int .i64 s, .slice ao ns.length pc, u32 u] 100 :: tblA pt :: A :: R) w := H
              refine s_end ?_
              refine s_region ?_
              refine s_do rfl rfl rfl (d_add64 rfl rfl rfl (r := (i : Int) + 1) (by omega) (by omega)) ?_
              refine s_do rfl rfl rfl (d_move rfl rfl) ?_
              refine s_end ?_
              intro _ hF
              refine ⟨(i + 1), (hF.cons (hF.cons (hF.cons (hF.cons (hF.cons hF.nil 52 _ _ rfl rfl) 51 _ _ rfl rfl) 6 _ _ rfl rfl) 0 _ _ rfl rfl) 53 _ _ rfl (by go_num)), ⟨(by rw [← flat_snoc hx, ← List.append_assoc]; exact H), ?_⟩, ?_⟩
              · refine ⟨by omega, fun j y hj h => ?_⟩
                rcases Nat.lt_or_ge j i with q | q
                · exact hall j y q h
                · obtain rfl : j = i := by omega
                  rw [hx] at h; cases h; omega
              · omega
          · -- no: (i : Int) < (ns.length : Int)
            obtain rfl : i = ns.length := by omega
            refine k_exit ?_
            refine k_here ?_
            refine k_seq ?_
            rw [List.take_length] at H
            have H : Sep z (blk b2 (wrC (pad ([80, 76, 79, 71] ++ beN 8 e ++ beN 8 s ++ beN 4 (u.toNat : Int) ++ beN 2 (ns.length : Int) ++ ns.flatMap (beN 4))) ((26 + 4 * ns.length : Nat) : Int)) 118 :: blk b1 [.int .i64 e, .int .i64 s, .slice ao ns.length pc, u32 u] 100 :: tblA pt :: A :: R) w := H
            refine s_region ?_
            refine s_do rfl rfl rfl (d_move rfl rfl) ?_
            refine s_callC rfl rfl rfl rfl rfl (fun w => Tryz.call50 _ w) (framed_c _ _ _ _ (pad_len (by first | omega | (simp [beN_len, flat_len, -List.length_flatMap] <;> omega)))) H 3 [0, 2, 1] rfl rfl ?_
            rintro _ w _ ⟨rfl, rfl⟩ H'
            have H : Sep z (blk b2 (wrC (sect ([80, 76, 79, 71] ++ beN 8 e ++ beN 8 s ++ beN 4 (u.toNat : Int) ++ beN 2 (ns.length : Int) ++ ns.flatMap (beN 4))) ((26 + 4 * ns.length : Nat) : Int)) 118 :: tblA pt :: blk b1 [.int .i64 e, .int .i64 s, .slice ao ns.length pc, u32 u] 100 :: A :: R) w := H'
            clear H'
            refine s_do rfl rfl rfl (d_assign rfl rfl) ?_
            refine s_do rfl rfl rfl (d_assign rfl rfl) ?_
            refine s_end ?_
            refine k_ret ?_
            refine doneL rfl [.slice (some ⟨b2, 0, none⟩) 256 256, .int .i64 0] ⟨rfl, ⟨rfl, trivial⟩⟩ (v := .tuple #[.slice (some ⟨b2, 0, none⟩) 256 256, .int .i64 0]) rfl ?_
            exact ⟨[blk b2 (wrC (sect ([80, 76, 79, 71] ++ beN 8 e ++ beN 8 s ++ beN 4 (u.toNat : Int) ++ beN 2 (ns.length : Int) ++ ns.flatMap (beN 4))) ((26 + 4 * ns.length : Nat) : Int)) 118, tblA pt, A], .inr ⟨⟨by omega, by omega, by omega, fun x hx => by obtain ⟨j, hj, rfl⟩ := List.mem_iff_getElem.1 hx; exact hall j _ hj (List.getElem?_eq_getElem hj)⟩, b2, rfl, rfl⟩, H.perm 4 [0, 1, 3] rfl rfl⟩
end Go.Proofs.YtanejicgmgpjcaaGreatDoor
