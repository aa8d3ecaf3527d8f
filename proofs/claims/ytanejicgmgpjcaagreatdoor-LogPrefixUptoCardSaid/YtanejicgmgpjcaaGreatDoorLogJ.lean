/-
  Walks: sectors put. No condition.
-/
import Derived.Test.YtanejicgmgpjcaaGreatDoorLogI
set_option maxRecDepth 100000
namespace Go.Proofs.YtanejicgmgpjcaaGreatDoor
open Go.RowKit
theorem putImage_c (pt : Nat) (x y num kind : Int) (bv : Value) (body : List UInt8) (A : Asn) (hA : ∀ h, A h → rdH 1 bv body.length (body.map u8) h) : Cn Tryz.prog 34 [.pointer (some ⟨pt, 0, none⟩), .int .i64 x, .int .i64 y, .agg #[.int .i64 num, .int .i64 kind, bv]] [tblA pt, A] (fun v Γ => (¬ ((0 ≤ x ∧ x ≤ 4294967295) ∧ (0 ≤ y ∧ y ≤ 1099511627775) ∧ (0 ≤ num ∧ num ≤ 1023) ∧ (1 ≤ kind ∧ kind ≤ 5) ∧ body.length = 240) ∧ v = .tuple #[.slice none 0 0, .int .i64 1] ∧ Γ = [tblA pt, A]) ∨ (((0 ≤ x ∧ x ≤ 4294967295) ∧ (0 ≤ y ∧ y ≤ 1099511627775) ∧ (0 ≤ num ∧ num ≤ 1023) ∧ (1 ≤ kind ∧ kind ≤ 5) ∧ body.length = 240) ∧ ∃ pw, v = .tuple #[.slice (some ⟨pw, 0, none⟩) 256 256, .int .i64 0] ∧ Γ = [blk pw (wrC (sect (beN 1 kind ++ beN 2 num ++ beN 4 x ++ beN 5 y ++ body)) 252) 118, tblA pt, A])) := by
  intro z R w H'
  have H : Sep z (tblA pt :: A :: R) w := H'
  clear H'
  obtain ⟨ao, bc, rfl⟩ := H.says 1 rfl (fun h q => (hA h q).slc)
  refine enter Tryz.func34 rfl 66 Tryz.ntmps34 rfl ?_
  refine k_seq ?_
  refine s_region ?_
  refine s_go rfl rfl rfl (n_box H rfl rfl (cs := [.int .i64 num, .int .i64 kind, .slice ao body.length bc]) rfl) ?_
  rintro _ w ⟨b1, rfl, H'⟩
  have H : Sep z (blk b1 [.int .i64 num, .int .i64 kind, .slice ao body.length bc] 85 :: tblA pt :: A :: R) w := H'
  clear H'
  refine s_do rfl rfl rfl (d_assign rfl rfl) ?_
  refine s_do rfl rfl rfl (d_assign rfl rfl) ?_
  refine s_end ?_
  refine k_seq ?_
  refine k_seq ?_
  refine s_region ?_
  refine s_do rfl rfl rfl (d_move rfl rfl) ?_
  refine s_do rfl rfl rfl (d_eql_pn rfl (by kernel_rfl) rfl rfl) ?_
  refine s_do rfl rfl rfl (d_move rfl rfl) ?_
  refine s_do rfl rfl rfl (d_move rfl rfl) ?_
  refine s_callC rfl rfl rfl rfl rfl (fun w => Tryz.call47 _ w) (in_c _ _) H 0 [] rfl rfl ?_
  rintro _ w _ ⟨rfl, rfl⟩ H'
  have H : Sep z (blk b1 [.int .i64 num, .int .i64 kind, .slice ao body.length bc] 85 :: tblA pt :: A :: R) w := H'
  clear H'
  refine s_do rfl rfl rfl (d_not_dec rfl rfl) ?_
  refine s_do rfl rfl rfl (d_pick_f rfl rfl rfl) ?_
  refine s_do rfl rfl rfl (d_move rfl rfl) ?_
  refine s_part 18 rfl (fun h1 => ?_) (fun h1 => ?_)
  · -- yes: ¬ ((0 : Int) ≤ x ∧ x ≤ 4294967295)
    refine s_skip rfl rfl rfl ?_
    refine s_skip rfl rfl rfl ?_
    refine s_skip rfl rfl rfl ?_
    refine s_do rfl rfl rfl (d_pick_t rfl rfl rfl) ?_
    refine s_do rfl rfl rfl (d_move rfl rfl) ?_
    refine s_skip rfl rfl rfl ?_
    refine s_skip rfl rfl rfl ?_
    refine s_skip rfl rfl rfl ?_
    refine s_skip rfl rfl rfl ?_
    refine s_do rfl rfl rfl (d_pick_t rfl rfl rfl) ?_
    refine s_do rfl rfl rfl (d_move rfl rfl) ?_
    refine s_skip rfl rfl rfl ?_
    refine s_skip rfl rfl rfl ?_
    refine s_skip rfl rfl rfl ?_
    refine s_skip rfl rfl rfl ?_
    refine s_do rfl rfl rfl (d_pick_t rfl rfl rfl) ?_
    refine s_do rfl rfl rfl (d_move rfl rfl) ?_
    refine s_skip rfl rfl rfl ?_
    refine s_skip rfl rfl rfl ?_
    refine s_skip rfl rfl rfl ?_
    refine s_skip rfl rfl rfl ?_
    refine s_do rfl rfl rfl (d_pick_t rfl rfl rfl) ?_
    refine s_do rfl rfl rfl (d_move rfl rfl) ?_
    refine s_skip rfl rfl rfl ?_
    refine s_skip rfl rfl rfl ?_
    refine s_skip rfl rfl rfl ?_
    refine s_skip rfl rfl rfl ?_
    refine s_skip rfl rfl rfl ?_
    refine s_do rfl rfl rfl (d_pick_t rfl rfl rfl) ?_
    refine s_end ?_
    refine k_true rfl ?_
    refine k_seq ?_
    refine s_region ?_
    refine s_do rfl rfl rfl (d_assign rfl rfl) ?_
    refine s_do rfl rfl rfl (d_assign rfl rfl) ?_
    refine s_end ?_
    refine k_ret ?_
    refine doneL rfl [.slice none 0 0, .int .i64 1] ⟨rfl, ⟨rfl, trivial⟩⟩ (v := .tuple #[.slice none 0 0, .int .i64 1]) rfl ?_
    exact ⟨[tblA pt, A], .inl ⟨by omega, rfl, rfl⟩, H.perm 3 [1, 2] rfl rfl⟩
  · -- no: ¬ ((0 : Int) ≤ x ∧ x ≤ 4294967295)
    refine s_do rfl rfl rfl (d_move rfl rfl) ?_
    refine s_callC rfl rfl rfl rfl rfl (fun w => Tryz.call47 _ w) (in_c _ _) H 0 [] rfl rfl ?_
    rintro _ w _ ⟨rfl, rfl⟩ H'
    have H : Sep z (blk b1 [.int .i64 num, .int .i64 kind, .slice ao body.length bc] 85 :: tblA pt :: A :: R) w := H'
    clear H'
    refine s_do rfl rfl rfl (d_not_dec rfl rfl) ?_
    refine s_do rfl rfl rfl (d_pick_f rfl rfl rfl) ?_
    refine s_do rfl rfl rfl (d_move rfl rfl) ?_
    refine s_part 23 rfl (fun h2 => ?_) (fun h2 => ?_)
    · -- yes: ¬ ((0 : Int) ≤ y ∧ y ≤ 1099511627775)
      refine s_skip rfl rfl rfl ?_
      refine s_skip rfl rfl rfl ?_
      refine s_skip rfl rfl rfl ?_
      refine s_skip rfl rfl rfl ?_
      refine s_do rfl rfl rfl (d_pick_t rfl rfl rfl) ?_
      refine s_do rfl rfl rfl (d_move rfl rfl) ?_
      refine s_skip rfl rfl rfl ?_
      refine s_skip rfl rfl rfl ?_
      refine s_skip rfl rfl rfl ?_
      refine s_skip rfl rfl rfl ?_
      refine s_do rfl rfl rfl (d_pick_t rfl rfl rfl) ?_
      refine s_do rfl rfl rfl (d_move rfl rfl) ?_
      refine s_skip rfl rfl rfl ?_
      refine s_skip rfl rfl rfl ?_
      refine s_skip rfl rfl rfl ?_
      refine s_skip rfl rfl rfl ?_
      refine s_do rfl rfl rfl (d_pick_t rfl rfl rfl) ?_
      refine s_do rfl rfl rfl (d_move rfl rfl) ?_
      refine s_skip rfl rfl rfl ?_
      refine s_skip rfl rfl rfl ?_
      refine s_skip rfl rfl rfl ?_
      refine s_skip rfl rfl rfl ?_
      refine s_skip rfl rfl rfl ?_
      refine s_do rfl rfl rfl (d_pick_t rfl rfl rfl) ?_
      refine s_end ?_
      refine k_true rfl ?_
      refine k_seq ?_
      refine s_region ?_
      refine s_do rfl rfl rfl (d_assign rfl rfl) ?_
      refine s_do rfl rfl rfl (d_assign rfl rfl) ?_
      refine s_end ?_
      refine k_ret ?_
      refine doneL rfl [.slice none 0 0, .int .i64 1] ⟨rfl, ⟨rfl, trivial⟩⟩ (v := .tuple #[.slice none 0 0, .int .i64 1]) rfl ?_
      exact ⟨[tblA pt, A], .inl ⟨by omega, rfl, rfl⟩, H.perm 3 [1, 2] rfl rfl⟩
    · -- no: ¬ ((0 : Int) ≤ y ∧ y ≤ 1099511627775)
      refine s_do rfl rfl rfl (d_field rfl (k := 0) (r := 0) (by kernel_rfl) rfl rfl) ?_
      refine s_do rfl rfl rfl (d_load rfl rfl (by kernel_rfl) (here (H.cel 0 rfl 0 rfl))) ?_
      refine s_callC rfl rfl rfl rfl rfl (fun w => Tryz.call47 _ w) (in_c _ _) H 0 [] rfl rfl ?_
      rintro _ w _ ⟨rfl, rfl⟩ H'
      have H : Sep z (blk b1 [.int .i64 num, .int .i64 kind, .slice ao body.length bc] 85 :: tblA pt :: A :: R) w := H'
      clear H'
      refine s_do rfl rfl rfl (d_not_dec rfl rfl) ?_
      refine s_do rfl rfl rfl (d_pick_f rfl rfl rfl) ?_
      refine s_do rfl rfl rfl (d_move rfl rfl) ?_
      refine s_part 29 rfl (fun h3 => ?_) (fun h3 => ?_)
      · -- yes: ¬ ((0 : Int) ≤ num ∧ num ≤ 1023)
        refine s_skip rfl rfl rfl ?_
        refine s_skip rfl rfl rfl ?_
        refine s_skip rfl rfl rfl ?_
        refine s_skip rfl rfl rfl ?_
        refine s_do rfl rfl rfl (d_pick_t rfl rfl rfl) ?_
        refine s_do rfl rfl rfl (d_move rfl rfl) ?_
        refine s_skip rfl rfl rfl ?_
        refine s_skip rfl rfl rfl ?_
        refine s_skip rfl rfl rfl ?_
        refine s_skip rfl rfl rfl ?_
        refine s_do rfl rfl rfl (d_pick_t rfl rfl rfl) ?_
        refine s_do rfl rfl rfl (d_move rfl rfl) ?_
        refine s_skip rfl rfl rfl ?_
        refine s_skip rfl rfl rfl ?_
        refine s_skip rfl rfl rfl ?_
        refine s_skip rfl rfl rfl ?_
        refine s_skip rfl rfl rfl ?_
        refine s_do rfl rfl rfl (d_pick_t rfl rfl rfl) ?_
        refine s_end ?_
        refine k_true rfl ?_
        refine k_seq ?_
        refine s_region ?_
        refine s_do rfl rfl rfl (d_assign rfl rfl) ?_
        refine s_do rfl rfl rfl (d_assign rfl rfl) ?_
        refine s_end ?_
        refine k_ret ?_
        refine doneL rfl [.slice none 0 0, .int .i64 1] ⟨rfl, ⟨rfl, trivial⟩⟩ (v := .tuple #[.slice none 0 0, .int .i64 1]) rfl ?_
        exact ⟨[tblA pt, A], .inl ⟨by omega, rfl, rfl⟩, H.perm 3 [1, 2] rfl rfl⟩
      · -- no: ¬ ((0 : Int) ≤ num ∧ num ≤ 1023)
        refine s_do rfl rfl rfl (d_field rfl (k := 1) (r := 1) (by kernel_rfl) rfl rfl) ?_
        refine s_do rfl rfl rfl (d_field rfl (k := 0) (r := 1) (by kernel_rfl) rfl rfl) ?_
        refine s_do rfl rfl rfl (d_load rfl rfl (by kernel_rfl) (here (H.cel 0 rfl 1 rfl))) ?_
        refine s_do rfl rfl rfl (d_lss rfl rfl rfl) ?_
        refine s_do rfl rfl rfl (d_pick_f rfl rfl rfl) ?_
        refine s_do rfl rfl rfl (d_move rfl rfl) ?_
        refine s_part 35 rfl (fun h4 => ?_) (fun h4 => ?_)
        · -- yes: (kind : Int) < 1
          refine s_skip rfl rfl rfl ?_
          refine s_skip rfl rfl rfl ?_
          refine s_skip rfl rfl rfl ?_
          refine s_skip rfl rfl rfl ?_
          refine s_do rfl rfl rfl (d_pick_t rfl rfl rfl) ?_
          refine s_do rfl rfl rfl (d_move rfl rfl) ?_
          refine s_skip rfl rfl rfl ?_
          refine s_skip rfl rfl rfl ?_
          refine s_skip rfl rfl rfl ?_
          refine s_skip rfl rfl rfl ?_
          refine s_skip rfl rfl rfl ?_
          refine s_do rfl rfl rfl (d_pick_t rfl rfl rfl) ?_
          refine s_end ?_
          refine k_true rfl ?_
          refine k_seq ?_
          refine s_region ?_
          refine s_do rfl rfl rfl (d_assign rfl rfl) ?_
          refine s_do rfl rfl rfl (d_assign rfl rfl) ?_
          refine s_end ?_
          refine k_ret ?_
          refine doneL rfl [.slice none 0 0, .int .i64 1] ⟨rfl, ⟨rfl, trivial⟩⟩ (v := .tuple #[.slice none 0 0, .int .i64 1]) rfl ?_
          exact ⟨[tblA pt, A], .inl ⟨by omega, rfl, rfl⟩, H.perm 3 [1, 2] rfl rfl⟩
        · -- no: (kind : Int) < 1
          refine s_do rfl rfl rfl (d_field rfl (k := 1) (r := 1) (by kernel_rfl) rfl rfl) ?_
          refine s_do rfl rfl rfl (d_field rfl (k := 0) (r := 1) (by kernel_rfl) rfl rfl) ?_
          refine s_do rfl rfl rfl (d_load rfl rfl (by kernel_rfl) (here (H.cel 0 rfl 1 rfl))) ?_
          refine s_do rfl rfl rfl (d_gtr rfl rfl rfl) ?_
          refine s_do rfl rfl rfl (d_pick_f rfl rfl rfl) ?_
          refine s_do rfl rfl rfl (d_move rfl rfl) ?_
          refine s_part 41 rfl (fun h5 => ?_) (fun h5 => ?_)
          · -- yes: (5 : Int) < kind
            refine s_skip rfl rfl rfl ?_
            refine s_skip rfl rfl rfl ?_
            refine s_skip rfl rfl rfl ?_
            refine s_skip rfl rfl rfl ?_
            refine s_skip rfl rfl rfl ?_
            refine s_do rfl rfl rfl (d_pick_t rfl rfl rfl) ?_
            refine s_end ?_
            refine k_true rfl ?_
            refine k_seq ?_
            refine s_region ?_
            refine s_do rfl rfl rfl (d_assign rfl rfl) ?_
            refine s_do rfl rfl rfl (d_assign rfl rfl) ?_
            refine s_end ?_
            refine k_ret ?_
            refine doneL rfl [.slice none 0 0, .int .i64 1] ⟨rfl, ⟨rfl, trivial⟩⟩ (v := .tuple #[.slice none 0 0, .int .i64 1]) rfl ?_
            exact ⟨[tblA pt, A], .inl ⟨by omega, rfl, rfl⟩, H.perm 3 [1, 2] rfl rfl⟩
          · -- no: (5 : Int) < kind
            refine s_do rfl rfl rfl (d_field rfl (k := 1) (r := 1) (by kernel_rfl) rfl rfl) ?_
            refine s_do rfl rfl rfl (d_field rfl (k := 1) (r := 2) (by kernel_rfl) rfl rfl) ?_
            refine s_do rfl rfl rfl (d_load rfl rfl (by kernel_rfl) (here (H.cel 0 rfl 2 rfl))) ?_
            refine s_do rfl rfl rfl (d_len rfl (z := 1) (by kernel_rfl) rfl) ?_
            refine s_do rfl rfl rfl (d_neq rfl rfl rfl) ?_
            refine s_do rfl rfl rfl (d_pick_f rfl rfl rfl) ?_
            refine s_end ?_
            refine k_dec rfl (fun h6 => ?_) (fun h6 => ?_)
            · -- yes: (body.length : Int) ≠ 240
              refine k_seq ?_
              refine s_region ?_
              refine s_do rfl rfl rfl (d_assign rfl rfl) ?_
              refine s_do rfl rfl rfl (d_assign rfl rfl) ?_
              refine s_end ?_
              refine k_ret ?_
              refine doneL rfl [.slice none 0 0, .int .i64 1] ⟨rfl, ⟨rfl, trivial⟩⟩ (v := .tuple #[.slice none 0 0, .int .i64 1]) rfl ?_
              exact ⟨[tblA pt, A], .inl ⟨by omega, rfl, rfl⟩, H.perm 3 [1, 2] rfl rfl⟩
            · -- no: (body.length : Int) ≠ 240
              have hbl : body.length = 240 := by omega
              refine k_skip ?_
              refine k_seq ?_
              refine s_region ?_
              refine s_go rfl rfl rfl (n_alloc (P := Tryz.prog) H rfl (zs := (wrC (pad []) 0)) (by kernel_rfl)) ?_
              rintro _ w ⟨b2, rfl, H'⟩
              have H : Sep z (blk b2 (wrC (pad ([])) 0) 118 :: blk b1 [.int .i64 num, .int .i64 kind, .slice ao body.length bc] 85 :: tblA pt :: A :: R) w := H'
              clear H'
              refine s_end ?_
              refine k_seq ?_
              refine s_region ?_
              refine s_do rfl rfl rfl (d_field rfl (k := 1) (r := 1) (by kernel_rfl) rfl rfl) ?_
              refine s_do rfl rfl rfl (d_field rfl (k := 0) (r := 1) (by kernel_rfl) rfl rfl) ?_
              refine s_do rfl rfl rfl (d_load rfl rfl (by kernel_rfl) (here (H.cel 1 rfl 1 rfl))) ?_
              refine s_callC rfl rfl rfl rfl rfl (fun w => Tryz.call49 _ w) (put_c _ 0 1 kind _ (pad_len (by first | omega | (simp [beN_len] <;> omega))) (by omega)) H 1 [0] rfl rfl ?_
              rintro _ w _ ⟨rfl, rfl⟩ H'
              have H : Sep z (blk b2 (wrC (wrAll (pad ([])) (beN 1 kind) 0) 1) 118 :: blk b1 [.int .i64 num, .int .i64 kind, .slice ao body.length bc] 85 :: tblA pt :: A :: R) w := H'
              clear H'
              rw [show wrAll (pad []) (beN 1 kind) 0 = pad (beN 1 kind) from pad_put rfl (by first | omega | (simp [beN_len] <;> omega))] at H
              have H : Sep z (blk b2 (wrC (pad (beN 1 kind)) 1) 118 :: blk b1 [.int .i64 num, .int .i64 kind, .slice ao body.length bc] 85 :: tblA pt :: A :: R) w := H
              refine s_end ?_
              refine k_seq ?_
              refine s_region ?_
              refine s_do rfl rfl rfl (d_field rfl (k := 0) (r := 0) (by kernel_rfl) rfl rfl) ?_
              refine s_do rfl rfl rfl (d_load rfl rfl (by kernel_rfl) (here (H.cel 1 rfl 0 rfl))) ?_
              refine s_callC rfl rfl rfl rfl rfl (fun w => Tryz.call49 _ w) (put_c _ 1 2 num _ (pad_len (by first | omega | (simp [beN_len] <;> omega))) (by omega)) H 1 [0] rfl rfl ?_
              rintro _ w _ ⟨rfl, rfl⟩ H'
              have H : Sep z (blk b2 (wrC (wrAll (pad (beN 1 kind)) (beN 2 num) 1) 3) 118 :: blk b1 [.int .i64 num, .int .i64 kind, .slice ao body.length bc] 85 :: tblA pt :: A :: R) w := H'
              clear H'
              rw [show wrAll (pad (beN 1 kind)) (beN 2 num) 1 = pad (beN 1 kind ++ beN 2 num) from pad_put (by first | omega | (simp [beN_len] <;> omega)) (by first | omega | (simp [beN_len] <;> omega))] at H
              have H : Sep z (blk b2 (wrC (pad (beN 1 kind ++ beN 2 num)) 3) 118 :: blk b1 [.int .i64 num, .int .i64 kind, .slice ao body.length bc] 85 :: tblA pt :: A :: R) w := H
              refine s_end ?_
              refine k_seq ?_
              refine s_region ?_
              refine s_do rfl rfl rfl (d_move rfl rfl) ?_
              refine s_callC rfl rfl rfl rfl rfl (fun w => Tryz.call49 _ w) (put_c _ 3 4 x _ (pad_len (by first | omega | (simp [beN_len] <;> omega))) (by omega)) H 1 [0] rfl rfl ?_
              rintro _ w _ ⟨rfl, rfl⟩ H'
              have H : Sep z (blk b2 (wrC (wrAll (pad (beN 1 kind ++ beN 2 num)) (beN 4 x) 3) 7) 118 :: blk b1 [.int .i64 num, .int .i64 kind, .slice ao body.length bc] 85 :: tblA pt :: A :: R) w := H'
              clear H'
              rw [show wrAll (pad (beN 1 kind ++ beN 2 num)) (beN 4 x) 3 = pad (beN 1 kind ++ beN 2 num ++ beN 4 x) from pad_put (by first | omega | (simp [beN_len] <;> omega)) (by first | omega | (simp [beN_len] <;> omega))] at H
              have H : Sep z (blk b2 (wrC (pad (beN 1 kind ++ beN 2 num ++ beN 4 x)) 7) 118 :: blk b1 [.int .i64 num, .int .i64 kind, .slice ao body.length bc] 85 :: tblA pt :: A :: R) w := H
              refine s_end ?_
              refine k_seq ?_
              refine s_region ?_
              refine s_do rfl rfl rfl (d_move rfl rfl) ?_
              refine s_callC rfl rfl rfl rfl rfl (fun w => Tryz.call49 _ w) (put_c _ 7 5 y _ (pad_len (by first | omega | (simp [beN_len] <;> omega))) (by omega)) H 1 [0] rfl rfl ?_
              rintro _ w _ ⟨rfl, rfl⟩ H'
              have H : Sep z (blk b2 (wrC (wrAll (pad (beN 1 kind ++ beN 2 num ++ beN 4 x)) (beN 5 y) 7) 12) 118 :: blk b1 [.int .i64 num, .int .i64 kind, .slice ao body.length bc] 85 :: tblA pt :: A :: R) w := H'
              clear H'
              rw [show wrAll (pad (beN 1 kind ++ beN 2 num ++ beN 4 x)) (beN 5 y) 7 = pad (beN 1 kind ++ beN 2 num ++ beN 4 x ++ beN 5 y) from pad_put (by first | omega | (simp [beN_len] <;> omega)) (by first | omega | (simp [beN_len] <;> omega))] at H
              have H : Sep z (blk b2 (wrC (pad (beN 1 kind ++ beN 2 num ++ beN 4 x ++ beN 5 y)) 12) 118 :: blk b1 [.int .i64 num, .int .i64 kind, .slice ao body.length bc] 85 :: tblA pt :: A :: R) w := H
              refine s_end ?_
              refine k_seq ?_
              refine s_region ?_
              refine s_do rfl rfl rfl (d_field rfl (k := 1) (r := 1) (by kernel_rfl) rfl rfl) ?_
              refine s_do rfl rfl rfl (d_field rfl (k := 1) (r := 2) (by kernel_rfl) rfl rfl) ?_
              refine s_do rfl rfl rfl (d_load rfl rfl (by kernel_rfl) (here (H.cel 1 rfl 2 rfl))) ?_
              refine s_do rfl rfl rfl (d_bytesStr (l := body) rfl (by kernel_rfl) (by kernel_rfl) rfl (here (H.rd 3 rfl hA))) ?_
              refine s_callC rfl rfl rfl rfl rfl (fun w => Tryz.call48 _ w) (text_c _ 12 body _ (pad_len (by first | omega | (simp [beN_len] <;> omega))) (by first | omega | (simp <;> omega))) H 1 [0] rfl rfl ?_
              rintro _ w _ ⟨rfl, rfl⟩ H'
              have H : Sep z (blk b2 (wrC (wrAll (pad (beN 1 kind ++ beN 2 num ++ beN 4 x ++ beN 5 y)) body 12) ((12 + body.length : Nat) : Int)) 118 :: blk b1 [.int .i64 num, .int .i64 kind, .slice ao body.length bc] 85 :: tblA pt :: A :: R) w := H'
              clear H'
              rw [show ((12 + body.length : Nat) : Int) = (252 : Int) from by omega] at H
              rw [show wrAll (pad (beN 1 kind ++ beN 2 num ++ beN 4 x ++ beN 5 y)) body 12 = pad (beN 1 kind ++ beN 2 num ++ beN 4 x ++ beN 5 y ++ body) from pad_put (by first | omega | (simp [beN_len] <;> omega)) (by first | omega | (simp [beN_len] <;> omega))] at H
              have H : Sep z (blk b2 (wrC (pad (beN 1 kind ++ beN 2 num ++ beN 4 x ++ beN 5 y ++ body)) 252) 118 :: blk b1 [.int .i64 num, .int .i64 kind, .slice ao body.length bc] 85 :: tblA pt :: A :: R) w := H
              refine s_end ?_
              refine k_seq ?_
              refine s_region ?_
              refine s_do rfl rfl rfl (d_move rfl rfl) ?_
              refine s_callC rfl rfl rfl rfl rfl (fun w => Tryz.call50 _ w) (framed_c _ _ _ _ (pad_len (by first | omega | (simp [beN_len] <;> omega)))) H 3 [0, 2, 1] rfl rfl ?_
              rintro _ w _ ⟨rfl, rfl⟩ H'
              have H : Sep z (blk b2 (wrC (sect (beN 1 kind ++ beN 2 num ++ beN 4 x ++ beN 5 y ++ body)) 252) 118 :: tblA pt :: blk b1 [.int .i64 num, .int .i64 kind, .slice ao body.length bc] 85 :: A :: R) w := H'
              clear H'
              refine s_do rfl rfl rfl (d_assign rfl rfl) ?_
              refine s_do rfl rfl rfl (d_assign rfl rfl) ?_
              refine s_end ?_
              refine k_ret ?_
              refine doneL rfl [.slice (some ⟨b2, 0, none⟩) 256 256, .int .i64 0] ⟨rfl, ⟨rfl, trivial⟩⟩ (v := .tuple #[.slice (some ⟨b2, 0, none⟩) 256 256, .int .i64 0]) rfl ?_
              exact ⟨[blk b2 (wrC (sect (beN 1 kind ++ beN 2 num ++ beN 4 x ++ beN 5 y ++ body)) 252) 118, tblA pt, A], .inr ⟨by omega, b2, rfl, rfl⟩, H.perm 4 [0, 1, 3] rfl rfl⟩

theorem putPage_c (pt : Nat) (num kind : Int) (bv : Value) (body : List UInt8) (A : Asn) (hA : ∀ h, A h → rdH 1 bv body.length (body.map u8) h) : Cn Tryz.prog 33 [.pointer (some ⟨pt, 0, none⟩), .agg #[.int .i64 num, .int .i64 kind, bv]] [tblA pt, A] (fun v Γ => (¬ ((0 ≤ num ∧ num ≤ 1023) ∧ (1 ≤ kind ∧ kind ≤ 5) ∧ body.length = 240) ∧ v = .tuple #[.slice none 0 0, .int .i64 1] ∧ Γ = [tblA pt, A]) ∨ (((0 ≤ num ∧ num ≤ 1023) ∧ (1 ≤ kind ∧ kind ≤ 5) ∧ body.length = 240) ∧ ∃ pw, v = .tuple #[.slice (some ⟨pw, 0, none⟩) 256 256, .int .i64 0] ∧ Γ = [blk pw (wrC (sect ([80, 80, 65, 71] ++ beN 1 kind ++ beN 4 num ++ [0, 0, 0] ++ body)) 252) 118, tblA pt, A])) := by
  intro z R w H'
  have H : Sep z (tblA pt :: A :: R) w := H'
  clear H'
  obtain ⟨ao, bc, rfl⟩ := H.says 1 rfl (fun h q => (hA h q).slc)
  refine enter Tryz.func33 rfl 50 Tryz.ntmps33 rfl ?_
  refine k_seq ?_
  refine s_region ?_
  refine s_go rfl rfl rfl (n_box H rfl rfl (cs := [.int .i64 num, .int .i64 kind, .slice ao body.length bc]) rfl) ?_
  rintro _ w ⟨b1, rfl, H'⟩
  have H : Sep z (blk b1 [.int .i64 num, .int .i64 kind, .slice ao body.length bc] 85 :: tblA pt :: A :: R) w := H'
  clear H'
  refine s_do rfl rfl rfl (d_assign rfl rfl) ?_
  refine s_do rfl rfl rfl (d_assign rfl rfl) ?_
  refine s_end ?_
  refine k_seq ?_
  refine k_seq ?_
  refine s_region ?_
  refine s_do rfl rfl rfl (d_move rfl rfl) ?_
  refine s_do rfl rfl rfl (d_eql_pn rfl (by kernel_rfl) rfl rfl) ?_
  refine s_do rfl rfl rfl (d_move rfl rfl) ?_
  refine s_do rfl rfl rfl (d_field rfl (k := 0) (r := 0) (by kernel_rfl) rfl rfl) ?_
  refine s_do rfl rfl rfl (d_load rfl rfl (by kernel_rfl) (here (H.cel 0 rfl 0 rfl))) ?_
  refine s_callC rfl rfl rfl rfl rfl (fun w => Tryz.call47 _ w) (in_c _ _) H 0 [] rfl rfl ?_
  rintro _ w _ ⟨rfl, rfl⟩ H'
  have H : Sep z (blk b1 [.int .i64 num, .int .i64 kind, .slice ao body.length bc] 85 :: tblA pt :: A :: R) w := H'
  clear H'
  refine s_do rfl rfl rfl (d_not_dec rfl rfl) ?_
  refine s_do rfl rfl rfl (d_pick_f rfl rfl rfl) ?_
  refine s_do rfl rfl rfl (d_move rfl rfl) ?_
  refine s_part 15 rfl (fun h1 => ?_) (fun h1 => ?_)
  · -- yes: ¬ ((0 : Int) ≤ num ∧ num ≤ 1023)
    refine s_skip rfl rfl rfl ?_
    refine s_skip rfl rfl rfl ?_
    refine s_skip rfl rfl rfl ?_
    refine s_skip rfl rfl rfl ?_
    refine s_do rfl rfl rfl (d_pick_t rfl rfl rfl) ?_
    refine s_do rfl rfl rfl (d_move rfl rfl) ?_
    refine s_skip rfl rfl rfl ?_
    refine s_skip rfl rfl rfl ?_
    refine s_skip rfl rfl rfl ?_
    refine s_skip rfl rfl rfl ?_
    refine s_do rfl rfl rfl (d_pick_t rfl rfl rfl) ?_
    refine s_do rfl rfl rfl (d_move rfl rfl) ?_
    refine s_skip rfl rfl rfl ?_
    refine s_skip rfl rfl rfl ?_
    refine s_skip rfl rfl rfl ?_
    refine s_skip rfl rfl rfl ?_
    refine s_skip rfl rfl rfl ?_
    refine s_do rfl rfl rfl (d_pick_t rfl rfl rfl) ?_
    refine s_end ?_
    refine k_true rfl ?_
    refine k_seq ?_
    refine s_region ?_
    refine s_do rfl rfl rfl (d_assign rfl rfl) ?_
    refine s_do rfl rfl rfl (d_assign rfl rfl) ?_
    refine s_end ?_
    refine k_ret ?_
    refine doneL rfl [.slice none 0 0, .int .i64 1] ⟨rfl, ⟨rfl, trivial⟩⟩ (v := .tuple #[.slice none 0 0, .int .i64 1]) rfl ?_
    exact ⟨[tblA pt, A], .inl ⟨by omega, rfl, rfl⟩, H.perm 3 [1, 2] rfl rfl⟩
  · -- no: ¬ ((0 : Int) ≤ num ∧ num ≤ 1023)
    refine s_do rfl rfl rfl (d_field rfl (k := 1) (r := 1) (by kernel_rfl) rfl rfl) ?_
    refine s_do rfl rfl rfl (d_field rfl (k := 0) (r := 1) (by kernel_rfl) rfl rfl) ?_
    refine s_do rfl rfl rfl (d_load rfl rfl (by kernel_rfl) (here (H.cel 0 rfl 1 rfl))) ?_
    refine s_do rfl rfl rfl (d_lss rfl rfl rfl) ?_
    refine s_do rfl rfl rfl (d_pick_f rfl rfl rfl) ?_
    refine s_do rfl rfl rfl (d_move rfl rfl) ?_
    refine s_part 21 rfl (fun h2 => ?_) (fun h2 => ?_)
    · -- yes: (kind : Int) < 1
      refine s_skip rfl rfl rfl ?_
      refine s_skip rfl rfl rfl ?_
      refine s_skip rfl rfl rfl ?_
      refine s_skip rfl rfl rfl ?_
      refine s_do rfl rfl rfl (d_pick_t rfl rfl rfl) ?_
      refine s_do rfl rfl rfl (d_move rfl rfl) ?_
      refine s_skip rfl rfl rfl ?_
      refine s_skip rfl rfl rfl ?_
      refine s_skip rfl rfl rfl ?_
      refine s_skip rfl rfl rfl ?_
      refine s_skip rfl rfl rfl ?_
      refine s_do rfl rfl rfl (d_pick_t rfl rfl rfl) ?_
      refine s_end ?_
      refine k_true rfl ?_
      refine k_seq ?_
      refine s_region ?_
      refine s_do rfl rfl rfl (d_assign rfl rfl) ?_
      refine s_do rfl rfl rfl (d_assign rfl rfl) ?_
      refine s_end ?_
      refine k_ret ?_
      refine doneL rfl [.slice none 0 0, .int .i64 1] ⟨rfl, ⟨rfl, trivial⟩⟩ (v := .tuple #[.slice none 0 0, .int .i64 1]) rfl ?_
      exact ⟨[tblA pt, A], .inl ⟨by omega, rfl, rfl⟩, H.perm 3 [1, 2] rfl rfl⟩
    · -- no: (kind : Int) < 1
      refine s_do rfl rfl rfl (d_field rfl (k := 1) (r := 1) (by kernel_rfl) rfl rfl) ?_
      refine s_do rfl rfl rfl (d_field rfl (k := 0) (r := 1) (by kernel_rfl) rfl rfl) ?_
      refine s_do rfl rfl rfl (d_load rfl rfl (by kernel_rfl) (here (H.cel 0 rfl 1 rfl))) ?_
      refine s_do rfl rfl rfl (d_gtr rfl rfl rfl) ?_
      refine s_do rfl rfl rfl (d_pick_f rfl rfl rfl) ?_
      refine s_do rfl rfl rfl (d_move rfl rfl) ?_
      refine s_part 27 rfl (fun h3 => ?_) (fun h3 => ?_)
      · -- yes: (5 : Int) < kind
        refine s_skip rfl rfl rfl ?_
        refine s_skip rfl rfl rfl ?_
        refine s_skip rfl rfl rfl ?_
        refine s_skip rfl rfl rfl ?_
        refine s_skip rfl rfl rfl ?_
        refine s_do rfl rfl rfl (d_pick_t rfl rfl rfl) ?_
        refine s_end ?_
        refine k_true rfl ?_
        refine k_seq ?_
        refine s_region ?_
        refine s_do rfl rfl rfl (d_assign rfl rfl) ?_
        refine s_do rfl rfl rfl (d_assign rfl rfl) ?_
        refine s_end ?_
        refine k_ret ?_
        refine doneL rfl [.slice none 0 0, .int .i64 1] ⟨rfl, ⟨rfl, trivial⟩⟩ (v := .tuple #[.slice none 0 0, .int .i64 1]) rfl ?_
        exact ⟨[tblA pt, A], .inl ⟨by omega, rfl, rfl⟩, H.perm 3 [1, 2] rfl rfl⟩
      · -- no: (5 : Int) < kind
        refine s_do rfl rfl rfl (d_field rfl (k := 1) (r := 1) (by kernel_rfl) rfl rfl) ?_
        refine s_do rfl rfl rfl (d_field rfl (k := 1) (r := 2) (by kernel_rfl) rfl rfl) ?_
        refine s_do rfl rfl rfl (d_load rfl rfl (by kernel_rfl) (here (H.cel 0 rfl 2 rfl))) ?_
        refine s_do rfl rfl rfl (d_len rfl (z := 1) (by kernel_rfl) rfl) ?_
        refine s_do rfl rfl rfl (d_neq rfl rfl rfl) ?_
        refine s_do rfl rfl rfl (d_pick_f rfl rfl rfl) ?_
        refine s_end ?_
        refine k_dec rfl (fun h4 => ?_) (fun h4 => ?_)
        · -- yes: (body.length : Int) ≠ 240
          refine k_seq ?_
          refine s_region ?_
          refine s_do rfl rfl rfl (d_assign rfl rfl) ?_
          refine s_do rfl rfl rfl (d_assign rfl rfl) ?_
          refine s_end ?_
          refine k_ret ?_
          refine doneL rfl [.slice none 0 0, .int .i64 1] ⟨rfl, ⟨rfl, trivial⟩⟩ (v := .tuple #[.slice none 0 0, .int .i64 1]) rfl ?_
          exact ⟨[tblA pt, A], .inl ⟨by omega, rfl, rfl⟩, H.perm 3 [1, 2] rfl rfl⟩
        · -- no: (body.length : Int) ≠ 240
          have hbl : body.length = 240 := by omega
          refine k_skip ?_
          refine k_seq ?_
          refine s_region ?_
          refine s_go rfl rfl rfl (n_alloc (P := Tryz.prog) H rfl (zs := (wrC (pad []) 0)) (by kernel_rfl)) ?_
          rintro _ w ⟨b2, rfl, H'⟩
          have H : Sep z (blk b2 (wrC (pad ([])) 0) 118 :: blk b1 [.int .i64 num, .int .i64 kind, .slice ao body.length bc] 85 :: tblA pt :: A :: R) w := H'
          clear H'
          refine s_end ?_
          refine k_seq ?_
          refine s_region ?_
          refine s_callC rfl rfl rfl rfl rfl (fun w => Tryz.call48 _ w) (text_c _ 0 [80, 80, 65, 71] _ (pad_len (by first | omega | (simp [beN_len] <;> omega))) (by first | omega | (simp <;> omega))) H 1 [0] rfl rfl ?_
          rintro _ w _ ⟨rfl, rfl⟩ H'
          have H : Sep z (blk b2 (wrC (wrAll (pad ([])) ([80, 80, 65, 71]) 0) 4) 118 :: blk b1 [.int .i64 num, .int .i64 kind, .slice ao body.length bc] 85 :: tblA pt :: A :: R) w := H'
          clear H'
          rw [show wrAll (pad []) ([80, 80, 65, 71]) 0 = pad ([80, 80, 65, 71]) from pad_put rfl (by first | omega | (simp [beN_len] <;> omega))] at H
          have H : Sep z (blk b2 (wrC (pad ([80, 80, 65, 71])) 4) 118 :: blk b1 [.int .i64 num, .int .i64 kind, .slice ao body.length bc] 85 :: tblA pt :: A :: R) w := H
          refine s_end ?_
          refine k_seq ?_
          refine s_region ?_
          refine s_do rfl rfl rfl (d_field rfl (k := 1) (r := 1) (by kernel_rfl) rfl rfl) ?_
          refine s_do rfl rfl rfl (d_field rfl (k := 0) (r := 1) (by kernel_rfl) rfl rfl) ?_
          refine s_do rfl rfl rfl (d_load rfl rfl (by kernel_rfl) (here (H.cel 1 rfl 1 rfl))) ?_
          refine s_callC rfl rfl rfl rfl rfl (fun w => Tryz.call49 _ w) (put_c _ 4 1 kind _ (pad_len (by first | omega | (simp [beN_len] <;> omega))) (by omega)) H 1 [0] rfl rfl ?_
          rintro _ w _ ⟨rfl, rfl⟩ H'
          have H : Sep z (blk b2 (wrC (wrAll (pad ([80, 80, 65, 71])) (beN 1 kind) 4) 5) 118 :: blk b1 [.int .i64 num, .int .i64 kind, .slice ao body.length bc] 85 :: tblA pt :: A :: R) w := H'
          clear H'
          rw [show wrAll (pad ([80, 80, 65, 71])) (beN 1 kind) 4 = pad ([80, 80, 65, 71] ++ beN 1 kind) from pad_put (by first | omega | (simp [beN_len] <;> omega)) (by first | omega | (simp [beN_len] <;> omega))] at H
          have H : Sep z (blk b2 (wrC (pad ([80, 80, 65, 71] ++ beN 1 kind)) 5) 118 :: blk b1 [.int .i64 num, .int .i64 kind, .slice ao body.length bc] 85 :: tblA pt :: A :: R) w := H
          refine s_end ?_
          refine k_seq ?_
          refine s_region ?_
          refine s_do rfl rfl rfl (d_field rfl (k := 0) (r := 0) (by kernel_rfl) rfl rfl) ?_
          refine s_do rfl rfl rfl (d_load rfl rfl (by kernel_rfl) (here (H.cel 1 rfl 0 rfl))) ?_
          refine s_callC rfl rfl rfl rfl rfl (fun w => Tryz.call49 _ w) (put_c _ 5 4 num _ (pad_len (by first | omega | (simp [beN_len] <;> omega))) (by omega)) H 1 [0] rfl rfl ?_
          rintro _ w _ ⟨rfl, rfl⟩ H'
          have H : Sep z (blk b2 (wrC (wrAll (pad ([80, 80, 65, 71] ++ beN 1 kind)) (beN 4 num) 5) 9) 118 :: blk b1 [.int .i64 num, .int .i64 kind, .slice ao body.length bc] 85 :: tblA pt :: A :: R) w := H'
          clear H'
          rw [show wrAll (pad ([80, 80, 65, 71] ++ beN 1 kind)) (beN 4 num) 5 = pad ([80, 80, 65, 71] ++ beN 1 kind ++ beN 4 num) from pad_put (by first | omega | (simp [beN_len] <;> omega)) (by first | omega | (simp [beN_len] <;> omega))] at H
          have H : Sep z (blk b2 (wrC (pad ([80, 80, 65, 71] ++ beN 1 kind ++ beN 4 num)) 9) 118 :: blk b1 [.int .i64 num, .int .i64 kind, .slice ao body.length bc] 85 :: tblA pt :: A :: R) w := H
          refine s_end ?_
          refine k_seq ?_
          refine s_region ?_
          refine s_do rfl rfl rfl (d_field rfl (k := 256) (r := 256) (by kernel_rfl) rfl rfl) ?_
          refine s_put rfl rfl (n_store 0 H rfl rfl rfl rfl (vs := [.int .i64 12]) rfl (by simp [u8, u32, Value.oneCell']) (by kernel_rfl) (by rw [wrC_len _ (pad_len (by first | omega | (simp [beN_len] <;> omega)))]; simp) (out := (wrC (pad ([80, 80, 65, 71] ++ beN 1 kind ++ beN 4 num)) 12)) (wrC_set _ _ (pad_len (by first | omega | (simp [beN_len] <;> omega))))) ?_
          rintro w H'
          have H : Sep z (blk b2 (wrC (pad ([80, 80, 65, 71] ++ beN 1 kind ++ beN 4 num)) 12) 118 :: blk b1 [.int .i64 num, .int .i64 kind, .slice ao body.length bc] 85 :: tblA pt :: A :: R) w := H'
          clear H'
          refine s_end ?_
          refine k_seq ?_
          refine s_region ?_
          refine s_do rfl rfl rfl (d_field rfl (k := 1) (r := 1) (by kernel_rfl) rfl rfl) ?_
          refine s_do rfl rfl rfl (d_field rfl (k := 1) (r := 2) (by kernel_rfl) rfl rfl) ?_
          refine s_do rfl rfl rfl (d_load rfl rfl (by kernel_rfl) (here (H.cel 1 rfl 2 rfl))) ?_
          refine s_do rfl rfl rfl (d_bytesStr (l := body) rfl (by kernel_rfl) (by kernel_rfl) rfl (here (H.rd 3 rfl hA))) ?_
          refine s_callC rfl rfl rfl rfl rfl (fun w => Tryz.call48 _ w) (text_c _ 12 body _ (pad_len (by first | omega | (simp [beN_len] <;> omega))) (by first | omega | (simp <;> omega))) H 1 [0] rfl rfl ?_
          rintro _ w _ ⟨rfl, rfl⟩ H'
          have H : Sep z (blk b2 (wrC (wrAll (pad ([80, 80, 65, 71] ++ beN 1 kind ++ beN 4 num)) body 12) ((12 + body.length : Nat) : Int)) 118 :: blk b1 [.int .i64 num, .int .i64 kind, .slice ao body.length bc] 85 :: tblA pt :: A :: R) w := H'
          clear H'
          rw [show ((12 + body.length : Nat) : Int) = (252 : Int) from by omega] at H
          rw [show wrAll (pad ([80, 80, 65, 71] ++ beN 1 kind ++ beN 4 num)) body 12 = pad ([80, 80, 65, 71] ++ beN 1 kind ++ beN 4 num ++ [0, 0, 0] ++ body) from (pad_jump (by first | omega | (simp [beN_len] <;> omega)) (by first | omega | (simp [beN_len] <;> omega))).trans (by simp [beN_len])] at H
          have H : Sep z (blk b2 (wrC (pad ([80, 80, 65, 71] ++ beN 1 kind ++ beN 4 num ++ [0, 0, 0] ++ body)) 252) 118 :: blk b1 [.int .i64 num, .int .i64 kind, .slice ao body.length bc] 85 :: tblA pt :: A :: R) w := H
          refine s_end ?_
          refine k_seq ?_
          refine s_region ?_
          refine s_do rfl rfl rfl (d_move rfl rfl) ?_
          refine s_callC rfl rfl rfl rfl rfl (fun w => Tryz.call50 _ w) (framed_c _ _ _ _ (pad_len (by first | omega | (simp [beN_len] <;> omega)))) H 3 [0, 2, 1] rfl rfl ?_
          rintro _ w _ ⟨rfl, rfl⟩ H'
          have H : Sep z (blk b2 (wrC (sect ([80, 80, 65, 71] ++ beN 1 kind ++ beN 4 num ++ [0, 0, 0] ++ body)) 252) 118 :: tblA pt :: blk b1 [.int .i64 num, .int .i64 kind, .slice ao body.length bc] 85 :: A :: R) w := H'
          clear H'
          refine s_do rfl rfl rfl (d_assign rfl rfl) ?_
          refine s_do rfl rfl rfl (d_assign rfl rfl) ?_
          refine s_end ?_
          refine k_ret ?_
          refine doneL rfl [.slice (some ⟨b2, 0, none⟩) 256 256, .int .i64 0] ⟨rfl, ⟨rfl, trivial⟩⟩ (v := .tuple #[.slice (some ⟨b2, 0, none⟩) 256 256, .int .i64 0]) rfl ?_
          exact ⟨[blk b2 (wrC (sect ([80, 80, 65, 71] ++ beN 1 kind ++ beN 4 num ++ [0, 0, 0] ++ body)) 252) 118, tblA pt, A], .inr ⟨by omega, b2, rfl, rfl⟩, H.perm 4 [0, 1, 3] rfl rfl⟩
end Go.Proofs.YtanejicgmgpjcaaGreatDoor
