/-
  Walks: heads and images read. No condition.
-/
import Derived.Test.YtanejicgmgpjcaaGreatDoorLogK2
import Derived.Test.YtanejicgmgpjcaaGreatDoorLogC
set_option maxRecDepth 100000
namespace Go.Proofs.YtanejicgmgpjcaaGreatDoor
open Go.RowKit
theorem getHead_c (pt b o c : Nat) (sec : List UInt8) (A : Asn) (hA : ∀ h, A h → rdH 1 (.slice (some ⟨b, o, none⟩) 256 c) 256 (sec.map u8) h) : Cn Tryz.prog 44 [.pointer (some ⟨pt, 0, none⟩), .slice (some ⟨b, o, none⟩) 256 c] [tblA pt, A] (fun v Γ => (headP sec ∧ ∃ v', v = .tuple #[.agg #[.int .i64 (getI ((sec.drop 4).take 8)), .int .i64 (getI ((sec.drop 12).take 8)), v', u32 (w32 (getI ((sec.drop 20).take 4)))], .bool true] ∧ Γ = [grow 3 1 v' (hCnt sec) (hN sec (hCnt sec)), tblA pt, A]) ∨ (¬ headP sec ∧ v = .tuple #[.agg #[.int .i64 0, .int .i64 0, .slice none 0 0, u32 0], .bool false] ∧ Γ = [tblA pt, A])) := by
  intro z R w H'
  have H : Sep z (tblA pt :: A :: R) w := H'
  clear H'
  have hsl := H.says 1 rfl (fun h q => (hA h q).len)
  have hcb := H.says 1 rfl (fun h q => (hA h q).cap)
  obtain ⟨c0, c1, c2, c3, hd⟩ := four hsl
  obtain ⟨m, hm, hm2⟩ := cnt_is (sec := sec)
  refine enter Tryz.func44 rfl 64 Tryz.ntmps44 rfl ?_
  refine k_seq ?_
  refine s_region ?_
  refine s_go rfl rfl rfl (n_alloc (P := Tryz.prog) H rfl (zs := [.int .i64 0, .int .i64 0, .slice none 0 0, u32 0]) (by kernel_rfl)) ?_
  rintro _ w ⟨b1, rfl, H'⟩
  have H : Sep z (blk b1 [.int .i64 0, .int .i64 0, .slice none 0 0, u32 0] 100 :: tblA pt :: A :: R) w := H'
  clear H'
  refine s_do rfl rfl rfl (d_assign rfl rfl) ?_
  refine s_end ?_
  refine k_seq ?_
  refine s_region ?_
  refine s_do rfl rfl rfl (d_move rfl rfl) ?_
  refine s_do rfl rfl rfl (d_move rfl rfl) ?_
  refine s_callC rfl rfl rfl rfl rfl (fun w => Tryz.call56 _ w) (sound_c _ _ _ _ _ sec _ hA) H 3 [1, 2, 0] rfl rfl ?_
  rintro _ w _ (⟨hs, rfl, rfl⟩ | ⟨hs, rfl, rfl⟩) H'
  · -- a case
    have H : Sep z (tblA pt :: A :: blk b1 [.int .i64 0, .int .i64 0, .slice none 0 0, u32 0] 100 :: R) w := H'
    clear H'
    refine s_do rfl rfl rfl (d_move rfl rfl) ?_
    refine s_do rfl rfl rfl (d_extract rfl rfl rfl) ?_
    refine s_do rfl rfl rfl (d_extract rfl rfl rfl) ?_
    refine s_go rfl rfl rfl (n_alloc (P := Tryz.prog) H rfl (zs := [.slice none 0 0]) (by kernel_rfl)) ?_
    rintro _ w ⟨b2, rfl, H'⟩
    have H : Sep z (blk b2 [.slice none 0 0] 129 :: tblA pt :: A :: blk b1 [.int .i64 0, .int .i64 0, .slice none 0 0, u32 0] 100 :: R) w := H'
    clear H'
    refine s_put rfl rfl (n_store 0 H rfl rfl rfl rfl (vs := [.slice (some ⟨b, (o + 4), none⟩) 248 (c - 4)]) rfl (by simp [u8, u32, Value.oneCell']) (by kernel_rfl) (by simp) (out := [.slice (some ⟨b, (o + 4), none⟩) 248 (c - 4)]) rfl) ?_
    rintro w H'
    have H : Sep z (blk b2 [.slice (some ⟨b, (o + 4), none⟩) 248 (c - 4)] 129 :: tblA pt :: A :: blk b1 [.int .i64 0, .int .i64 0, .slice none 0 0, u32 0] 100 :: R) w := H'
    clear H'
    refine s_do rfl rfl rfl (d_assign rfl rfl) ?_
    refine s_end ?_
    refine k_seq ?_
    refine k_seq ?_
    refine s_region ?_
    refine s_do rfl rfl rfl (d_move rfl rfl) ?_
    refine s_do rfl rfl rfl (d_not rfl rfl) ?_
    refine s_end ?_
    refine k_false rfl ?_
    refine k_skip ?_
    refine k_seq ?_
    refine s_region ?_
    refine s_callC rfl rfl rfl rfl rfl (fun w => Tryz.call57 _ w) (get_c 8 _ b (o + 4) 248 (c - 4) ((sec.drop 4).take 248) _ (fun h q => (hA h q).cut (lo := 4) (m := 248) (c' := (c - 4)) (by omega) (by omega) (by omega)) (by omega) (by omega) ((sec.drop 4).take 8) (by rw [List.take_take, Nat.min_eq_left (by omega)]) (o + 12) 240 (c - 12) (by omega) (by omega) (by omega)) H 3 [0, 2, 1] rfl rfl ?_
    rintro _ w _ ⟨rfl, rfl⟩ H'
    have H : Sep z (blk b2 [.slice (some ⟨b, (o + 12), none⟩) 240 (c - 12)] 129 :: A :: tblA pt :: blk b1 [.int .i64 0, .int .i64 0, .slice none 0 0, u32 0] 100 :: R) w := H'
    clear H'
    refine s_callC rfl rfl rfl rfl rfl (fun w => Tryz.call57 _ w) (get_c 8 _ b (o + 12) 240 (c - 12) ((sec.drop 12).take 240) _ (fun h q => (hA h q).cut (lo := 12) (m := 240) (c' := (c - 12)) (by omega) (by omega) (by omega)) (by omega) (by omega) ((sec.drop 12).take 8) (by rw [List.take_take, Nat.min_eq_left (by omega)]) (o + 20) 232 (c - 20) (by omega) (by omega) (by omega)) H 2 [0, 1] rfl rfl ?_
    rintro _ w _ ⟨rfl, rfl⟩ H'
    have H : Sep z (blk b2 [.slice (some ⟨b, (o + 20), none⟩) 232 (c - 20)] 129 :: A :: tblA pt :: blk b1 [.int .i64 0, .int .i64 0, .slice none 0 0, u32 0] 100 :: R) w := H'
    clear H'
    refine s_callC rfl rfl rfl rfl rfl (fun w => Tryz.call57 _ w) (get_c 4 _ b (o + 20) 232 (c - 20) ((sec.drop 20).take 232) _ (fun h q => (hA h q).cut (lo := 20) (m := 232) (c' := (c - 20)) (by omega) (by omega) (by omega)) (by omega) (by omega) ((sec.drop 20).take 4) (by rw [List.take_take, Nat.min_eq_left (by omega)]) (o + 24) 228 (c - 24) (by omega) (by omega) (by omega)) H 2 [0, 1] rfl rfl ?_
    rintro _ w _ ⟨rfl, rfl⟩ H'
    have H : Sep z (blk b2 [.slice (some ⟨b, (o + 24), none⟩) 228 (c - 24)] 129 :: A :: tblA pt :: blk b1 [.int .i64 0, .int .i64 0, .slice none 0 0, u32 0] 100 :: R) w := H'
    clear H'
    refine s_do rfl rfl rfl (d_to32 rfl (by kernel_rfl) rfl) ?_
    refine s_do rfl rfl rfl (d_build rfl rfl (out := [.int .i64 (getI ((sec.drop 4).take 8)), .int .i64 (getI ((sec.drop 12).take 8)), .slice none 0 0, u32 (w32 (getI ((sec.drop 20).take 4)))]) (by kernel_rfl)) ?_
    refine s_go rfl rfl rfl (n_alloc (P := Tryz.prog) H rfl (zs := [.int .i64 0, .int .i64 0, .slice none 0 0, u32 0]) (by kernel_rfl)) ?_
    rintro _ w ⟨b3, rfl, H'⟩
    have H : Sep z (blk b3 [.int .i64 0, .int .i64 0, .slice none 0 0, u32 0] 100 :: blk b2 [.slice (some ⟨b, (o + 24), none⟩) 228 (c - 24)] 129 :: A :: tblA pt :: blk b1 [.int .i64 0, .int .i64 0, .slice none 0 0, u32 0] 100 :: R) w := H'
    clear H'
    refine s_put rfl rfl (n_store 0 H rfl rfl rfl rfl (vs := [.int .i64 (getI ((sec.drop 4).take 8)), .int .i64 (getI ((sec.drop 12).take 8)), .slice none 0 0, u32 (w32 (getI ((sec.drop 20).take 4)))]) rfl (by simp [u8, u32, Value.oneCell']) (by kernel_rfl) (by simp) (out := [.int .i64 (getI ((sec.drop 4).take 8)), .int .i64 (getI ((sec.drop 12).take 8)), .slice none 0 0, u32 (w32 (getI ((sec.drop 20).take 4)))]) rfl) ?_
    rintro w H'
    have H : Sep z (blk b3 [.int .i64 (getI ((sec.drop 4).take 8)), .int .i64 (getI ((sec.drop 12).take 8)), .slice none 0 0, u32 (w32 (getI ((sec.drop 20).take 4)))] 100 :: blk b2 [.slice (some ⟨b, (o + 24), none⟩) 228 (c - 24)] 129 :: A :: tblA pt :: blk b1 [.int .i64 0, .int .i64 0, .slice none 0 0, u32 0] 100 :: R) w := H'
    clear H'
    refine s_end ?_
    refine k_seq ?_
    refine s_region ?_
    refine s_callC rfl rfl rfl rfl rfl (fun w => Tryz.call57 _ w) (get_c 2 _ b (o + 24) 228 (c - 24) ((sec.drop 24).take 228) _ (fun h q => (hA h q).cut (lo := 24) (m := 228) (c' := (c - 24)) (by omega) (by omega) (by omega)) (by omega) (by omega) ((sec.drop 24).take 2) (by rw [List.take_take, Nat.min_eq_left (by omega)]) (o + 26) 226 (c - 26) (by omega) (by omega) (by omega)) H 3 [1, 2, 0] rfl rfl ?_
    rintro _ w _ ⟨rfl, rfl⟩ H'
    have H : Sep z (blk b2 [.slice (some ⟨b, (o + 26), none⟩) 226 (c - 26)] 129 :: A :: blk b3 [.int .i64 (getI ((sec.drop 4).take 8)), .int .i64 (getI ((sec.drop 12).take 8)), .slice none 0 0, u32 (w32 (getI ((sec.drop 20).take 4)))] 100 :: tblA pt :: blk b1 [.int .i64 0, .int .i64 0, .slice none 0 0, u32 0] 100 :: R) w := H'
    clear H'
    refine s_do rfl rfl rfl (d_assign rfl rfl) ?_
    refine s_end ?_
    refine k_seq ?_
    refine k_seq ?_
    refine s_region ?_
    refine s_do rfl rfl rfl (d_field rfl (k := 0) (r := 0) (by kernel_rfl) rfl rfl) ?_
    refine s_do rfl rfl rfl (d_load rfl rfl (by kernel_rfl) (here (H.cel 2 rfl 0 rfl))) ?_
    refine s_callC rfl rfl rfl rfl rfl (fun w => Tryz.call47 _ w) (in_c _ _) H 0 [] rfl rfl ?_
    rintro _ w _ ⟨rfl, rfl⟩ H'
    have H : Sep z (blk b2 [.slice (some ⟨b, (o + 26), none⟩) 226 (c - 26)] 129 :: A :: blk b3 [.int .i64 (getI ((sec.drop 4).take 8)), .int .i64 (getI ((sec.drop 12).take 8)), .slice none 0 0, u32 (w32 (getI ((sec.drop 20).take 4)))] 100 :: tblA pt :: blk b1 [.int .i64 0, .int .i64 0, .slice none 0 0, u32 0] 100 :: R) w := H'
    clear H'
    refine s_do rfl rfl rfl (d_not_dec rfl rfl) ?_
    refine s_do rfl rfl rfl (d_move rfl rfl) ?_
    refine s_part 30 rfl (fun h1 => ?_) (fun h1 => ?_)
    · -- yes: ¬ ((0 : Int) ≤ (getI ((sec.drop 4).take 8)) ∧ (getI ((sec.drop 4).take 8)) ≤ 1099511627776)
      refine s_skip rfl rfl rfl ?_
      refine s_skip rfl rfl rfl ?_
      refine s_skip rfl rfl rfl ?_
      refine s_skip rfl rfl rfl ?_
      refine s_do rfl rfl rfl (d_pick_t rfl rfl rfl) ?_
      refine s_do rfl rfl rfl (d_move rfl rfl) ?_
      refine s_skip rfl rfl rfl ?_
      refine s_skip rfl rfl rfl ?_
      refine s_do rfl rfl rfl (d_pick_t rfl rfl rfl) ?_
      refine s_do rfl rfl rfl (d_move rfl rfl) ?_
      refine s_skip rfl rfl rfl ?_
      refine s_skip rfl rfl rfl ?_
      refine s_do rfl rfl rfl (d_pick_t rfl rfl rfl) ?_
      refine s_end ?_
      refine k_true rfl ?_
      refine k_seq ?_
      refine s_region ?_
      refine s_do rfl rfl rfl (d_build rfl rfl (out := [.int .i64 0, .int .i64 0, .slice none 0 0, u32 0]) (by kernel_rfl)) ?_
      refine s_put rfl rfl (n_store 4 H rfl rfl rfl rfl (vs := [.int .i64 0, .int .i64 0, .slice none 0 0, u32 0]) rfl (by simp [u8, u32, Value.oneCell']) (by kernel_rfl) (by simp) (out := [.int .i64 0, .int .i64 0, .slice none 0 0, u32 0]) rfl) ?_
      rintro w H'
      have H : Sep z (blk b2 [.slice (some ⟨b, (o + 26), none⟩) 226 (c - 26)] 129 :: A :: blk b3 [.int .i64 (getI ((sec.drop 4).take 8)), .int .i64 (getI ((sec.drop 12).take 8)), .slice none 0 0, u32 (w32 (getI ((sec.drop 20).take 4)))] 100 :: tblA pt :: blk b1 [.int .i64 0, .int .i64 0, .slice none 0 0, u32 0] 100 :: R) w := H'
      clear H'
      refine s_do rfl rfl rfl (d_assign rfl rfl) ?_
      refine s_end ?_
      refine k_ret ?_
      refine doneL rfl [.agg #[.int .i64 0, .int .i64 0, .slice none 0 0, u32 0], .bool false] ⟨⟨_, _, rfl, run_loadBlk (by kernel_rfl) (H.blk 4 rfl) (vs := [.int .i64 0, .int .i64 0, .slice none 0 0, u32 0]) rfl⟩, ⟨rfl, trivial⟩⟩ (v := .tuple #[.agg #[.int .i64 0, .int .i64 0, .slice none 0 0, u32 0], .bool false]) rfl ?_
      exact ⟨[tblA pt, A], .inr ⟨by first | exact fun q => hs q.1 | (rintro ⟨q0, q1, q2, q3, q4, q5⟩; first | (exfalso; omega) | exact absurd (q4 i (by omega)) ‹_› | (rw [hm2] at q5; exact absurd q5 ‹_›)), rfl, rfl⟩, H.perm 5 [3, 1] rfl rfl⟩
    · -- no: ¬ ((0 : Int) ≤ (getI ((sec.drop 4).take 8)) ∧ (getI ((sec.drop 4).take 8)) ≤ 1099511627776)
      refine s_do rfl rfl rfl (d_field rfl (k := 1) (r := 1) (by kernel_rfl) rfl rfl) ?_
      refine s_do rfl rfl rfl (d_load rfl rfl (by kernel_rfl) (here (H.cel 2 rfl 1 rfl))) ?_
      refine s_callC rfl rfl rfl rfl rfl (fun w => Tryz.call47 _ w) (in_c _ _) H 0 [] rfl rfl ?_
      rintro _ w _ ⟨rfl, rfl⟩ H'
      have H : Sep z (blk b2 [.slice (some ⟨b, (o + 26), none⟩) 226 (c - 26)] 129 :: A :: blk b3 [.int .i64 (getI ((sec.drop 4).take 8)), .int .i64 (getI ((sec.drop 12).take 8)), .slice none 0 0, u32 (w32 (getI ((sec.drop 20).take 4)))] 100 :: tblA pt :: blk b1 [.int .i64 0, .int .i64 0, .slice none 0 0, u32 0] 100 :: R) w := H'
      clear H'
      refine s_do rfl rfl rfl (d_not_dec rfl rfl) ?_
      refine s_do rfl rfl rfl (d_pick_f rfl rfl rfl) ?_
      refine s_do rfl rfl rfl (d_move rfl rfl) ?_
      refine s_part 36 rfl (fun h2 => ?_) (fun h2 => ?_)
      · -- yes: ¬ ((0 : Int) ≤ (getI ((sec.drop 12).take 8)) ∧ (getI ((sec.drop 12).take 8)) ≤ 1099511627776)
        refine s_skip rfl rfl rfl ?_
        refine s_skip rfl rfl rfl ?_
        refine s_do rfl rfl rfl (d_pick_t rfl rfl rfl) ?_
        refine s_do rfl rfl rfl (d_move rfl rfl) ?_
        refine s_skip rfl rfl rfl ?_
        refine s_skip rfl rfl rfl ?_
        refine s_do rfl rfl rfl (d_pick_t rfl rfl rfl) ?_
        refine s_end ?_
        refine k_true rfl ?_
        refine k_seq ?_
        refine s_region ?_
        refine s_do rfl rfl rfl (d_build rfl rfl (out := [.int .i64 0, .int .i64 0, .slice none 0 0, u32 0]) (by kernel_rfl)) ?_
        refine s_put rfl rfl (n_store 4 H rfl rfl rfl rfl (vs := [.int .i64 0, .int .i64 0, .slice none 0 0, u32 0]) rfl (by simp [u8, u32, Value.oneCell']) (by kernel_rfl) (by simp) (out := [.int .i64 0, .int .i64 0, .slice none 0 0, u32 0]) rfl) ?_
        rintro w H'
        have H : Sep z (blk b2 [.slice (some ⟨b, (o + 26), none⟩) 226 (c - 26)] 129 :: A :: blk b3 [.int .i64 (getI ((sec.drop 4).take 8)), .int .i64 (getI ((sec.drop 12).take 8)), .slice none 0 0, u32 (w32 (getI ((sec.drop 20).take 4)))] 100 :: tblA pt :: blk b1 [.int .i64 0, .int .i64 0, .slice none 0 0, u32 0] 100 :: R) w := H'
        clear H'
        refine s_do rfl rfl rfl (d_assign rfl rfl) ?_
        refine s_end ?_
        refine k_ret ?_
        refine doneL rfl [.agg #[.int .i64 0, .int .i64 0, .slice none 0 0, u32 0], .bool false] ⟨⟨_, _, rfl, run_loadBlk (by kernel_rfl) (H.blk 4 rfl) (vs := [.int .i64 0, .int .i64 0, .slice none 0 0, u32 0]) rfl⟩, ⟨rfl, trivial⟩⟩ (v := .tuple #[.agg #[.int .i64 0, .int .i64 0, .slice none 0 0, u32 0], .bool false]) rfl ?_
        exact ⟨[tblA pt, A], .inr ⟨by first | exact fun q => hs q.1 | (rintro ⟨q0, q1, q2, q3, q4, q5⟩; first | (exfalso; omega) | exact absurd (q4 i (by omega)) ‹_› | (rw [hm2] at q5; exact absurd q5 ‹_›)), rfl, rfl⟩, H.perm 5 [3, 1] rfl rfl⟩
      · -- no: ¬ ((0 : Int) ≤ (getI ((sec.drop 12).take 8)) ∧ (getI ((sec.drop 12).take 8)) ≤ 1099511627776)
        refine s_do rfl rfl rfl (d_move rfl rfl) ?_
        refine s_do rfl rfl rfl (d_eql rfl rfl rfl) ?_
        refine s_do rfl rfl rfl (d_pick_f rfl rfl rfl) ?_
        refine s_do rfl rfl rfl (d_move rfl rfl) ?_
        refine s_part 40 rfl (fun h3 => ?_) (fun h3 => ?_)
        · -- yes: (getI ((sec.drop 24).take 2) : Int) = 0
          refine s_skip rfl rfl rfl ?_
          refine s_skip rfl rfl rfl ?_
          refine s_do rfl rfl rfl (d_pick_t rfl rfl rfl) ?_
          refine s_end ?_
          refine k_true rfl ?_
          refine k_seq ?_
          refine s_region ?_
          refine s_do rfl rfl rfl (d_build rfl rfl (out := [.int .i64 0, .int .i64 0, .slice none 0 0, u32 0]) (by kernel_rfl)) ?_
          refine s_put rfl rfl (n_store 4 H rfl rfl rfl rfl (vs := [.int .i64 0, .int .i64 0, .slice none 0 0, u32 0]) rfl (by simp [u8, u32, Value.oneCell']) (by kernel_rfl) (by simp) (out := [.int .i64 0, .int .i64 0, .slice none 0 0, u32 0]) rfl) ?_
          rintro w H'
          have H : Sep z (blk b2 [.slice (some ⟨b, (o + 26), none⟩) 226 (c - 26)] 129 :: A :: blk b3 [.int .i64 (getI ((sec.drop 4).take 8)), .int .i64 (getI ((sec.drop 12).take 8)), .slice none 0 0, u32 (w32 (getI ((sec.drop 20).take 4)))] 100 :: tblA pt :: blk b1 [.int .i64 0, .int .i64 0, .slice none 0 0, u32 0] 100 :: R) w := H'
          clear H'
          refine s_do rfl rfl rfl (d_assign rfl rfl) ?_
          refine s_end ?_
          refine k_ret ?_
          refine doneL rfl [.agg #[.int .i64 0, .int .i64 0, .slice none 0 0, u32 0], .bool false] ⟨⟨_, _, rfl, run_loadBlk (by kernel_rfl) (H.blk 4 rfl) (vs := [.int .i64 0, .int .i64 0, .slice none 0 0, u32 0]) rfl⟩, ⟨rfl, trivial⟩⟩ (v := .tuple #[.agg #[.int .i64 0, .int .i64 0, .slice none 0 0, u32 0], .bool false]) rfl ?_
          exact ⟨[tblA pt, A], .inr ⟨by first | exact fun q => hs q.1 | (rintro ⟨q0, q1, q2, q3, q4, q5⟩; first | (exfalso; omega) | exact absurd (q4 i (by omega)) ‹_› | (rw [hm2] at q5; exact absurd q5 ‹_›)), rfl, rfl⟩, H.perm 5 [3, 1] rfl rfl⟩
        · -- no: (getI ((sec.drop 24).take 2) : Int) = 0
          refine s_do rfl rfl rfl (d_move rfl rfl) ?_
          refine s_do rfl rfl rfl (d_gtr rfl rfl rfl) ?_
          refine s_do rfl rfl rfl (d_pick_f rfl rfl rfl) ?_
          refine s_end ?_
          refine k_dec rfl (fun h4 => ?_) (fun h4 => ?_)
          · -- yes: (40 : Int) < (getI ((sec.drop 24).take 2))
            refine k_seq ?_
            refine s_region ?_
            refine s_do rfl rfl rfl (d_build rfl rfl (out := [.int .i64 0, .int .i64 0, .slice none 0 0, u32 0]) (by kernel_rfl)) ?_
            refine s_put rfl rfl (n_store 4 H rfl rfl rfl rfl (vs := [.int .i64 0, .int .i64 0, .slice none 0 0, u32 0]) rfl (by simp [u8, u32, Value.oneCell']) (by kernel_rfl) (by simp) (out := [.int .i64 0, .int .i64 0, .slice none 0 0, u32 0]) rfl) ?_
            rintro w H'
            have H : Sep z (blk b2 [.slice (some ⟨b, (o + 26), none⟩) 226 (c - 26)] 129 :: A :: blk b3 [.int .i64 (getI ((sec.drop 4).take 8)), .int .i64 (getI ((sec.drop 12).take 8)), .slice none 0 0, u32 (w32 (getI ((sec.drop 20).take 4)))] 100 :: tblA pt :: blk b1 [.int .i64 0, .int .i64 0, .slice none 0 0, u32 0] 100 :: R) w := H'
            clear H'
            refine s_do rfl rfl rfl (d_assign rfl rfl) ?_
            refine s_end ?_
            refine k_ret ?_
            refine doneL rfl [.agg #[.int .i64 0, .int .i64 0, .slice none 0 0, u32 0], .bool false] ⟨⟨_, _, rfl, run_loadBlk (by kernel_rfl) (H.blk 4 rfl) (vs := [.int .i64 0, .int .i64 0, .slice none 0 0, u32 0]) rfl⟩, ⟨rfl, trivial⟩⟩ (v := .tuple #[.agg #[.int .i64 0, .int .i64 0, .slice none 0 0, u32 0], .bool false]) rfl ?_
            exact ⟨[tblA pt, A], .inr ⟨by first | exact fun q => hs q.1 | (rintro ⟨q0, q1, q2, q3, q4, q5⟩; first | (exfalso; omega) | exact absurd (q4 i (by omega)) ‹_› | (rw [hm2] at q5; exact absurd q5 ‹_›)), rfl, rfl⟩, H.perm 5 [3, 1] rfl rfl⟩
          · -- no: (40 : Int) < (getI ((sec.drop 24).take 2))
            refine k_skip ?_
            refine k_seq ?_
            refine k_seq ?_
            refine k_updA 9 (u := .int .i64 (getI ((sec.drop 24).take 2))) (v := .int .i64 (m : Int)) rfl (congrArg (Value.int .i64) hm) ?_
            have H' := H.nilg 3 1
            have H : Sep z (grow 3 1 (.slice none 0 0) 0 [] :: blk b2 [.slice (some ⟨b, (o + 26), none⟩) 226 (c - 26)] 129 :: A :: blk b3 [.int .i64 (getI ((sec.drop 4).take 8)), .int .i64 (getI ((sec.drop 12).take 8)), .slice none 0 0, u32 (w32 (getI ((sec.drop 20).take 4)))] 100 :: tblA pt :: blk b1 [.int .i64 0, .int .i64 0, .slice none 0 0, u32 0] 100 :: R) w := H'
            clear H'
            refine s_region ?_
            refine s_do rfl rfl rfl (d_move rfl rfl) ?_
            refine s_do rfl rfl rfl (d_move rfl rfl) ?_
            refine s_end ?_
            refine k_block ?_
            refine c_loop (σ := Nat × Value) (fun ⟨i, v⟩ => [(46, .int .i64 (i : Int)), (4, .pointer (some ⟨b1, 0, none⟩)), (6, .pointer (some ⟨b2, 0, none⟩)), (8, .pointer (some ⟨b3, 0, none⟩)), (45, .int .i64 (m : Int))])
              (fun ⟨i, v⟩ w => Sep z (grow 3 1 v i (hN sec i) :: blk b2 [.slice (some ⟨b, (o + (26 + 4 * i)), none⟩) (252 - (26 + 4 * i)) (c - (26 + 4 * i))] 129 :: A :: blk b3 [.int .i64 (getI ((sec.drop 4).take 8)), .int .i64 (getI ((sec.drop 12).take 8)), v, u32 (w32 (getI ((sec.drop 20).take 4)))] 100 :: tblA pt :: blk b1 [.int .i64 0, .int .i64 0, .slice none 0 0, u32 0] 100 :: R) w ∧ (i ≤ m ∧ ∀ j, j < i → 0 ≤ hNum sec j ∧ hNum sec j ≤ 1023)) (fun ⟨i, v⟩ => m - i) ⟨0, .slice none 0 0⟩
              (fun _ hF => (hF.cons (hF.cons (hF.cons (hF.cons (hF.cons hF.nil 45 _ _ rfl rfl) 8 _ _ rfl rfl) 6 _ _ rfl rfl) 4 _ _ rfl rfl) 46 _ _ rfl (by go_num))) ⟨H, by omega, fun j h => by omega⟩ ?_
            clear H; rintro ⟨i, v⟩ w ⟨H', hI⟩
            dsimp only at hI H' ⊢
            have H : Sep z (grow 3 1 v i (hN sec i) :: blk b2 [.slice (some ⟨b, (o + (26 + 4 * i)), none⟩) (252 - (26 + 4 * i)) (c - (26 + 4 * i))] 129 :: A :: blk b3 [.int .i64 (getI ((sec.drop 4).take 8)), .int .i64 (getI ((sec.drop 12).take 8)), v, u32 (w32 (getI ((sec.drop 20).take 4)))] 100 :: tblA pt :: blk b1 [.int .i64 0, .int .i64 0, .slice none 0 0, u32 0] 100 :: R) w := H'
            clear H'
            have sv := H.says 0 rfl (fun h q => q.slc)
            obtain ⟨him, hall⟩ := hI
            refine k_seq ?_
            refine s_region ?_
            refine s_do rfl rfl rfl (d_lss rfl rfl rfl) ?_
            refine s_end ?_
            refine k_seq ?_
            refine k_dec rfl (fun h5 => ?_) (fun h5 => ?_)
            · -- yes: (i : Int) < (m : Int)
              have hlt : i < m := by omega
              refine k_skip ?_
              refine k_seq ?_
              refine k_block ?_
              refine k_seq ?_
              refine s_region ?_
              refine s_callC rfl rfl rfl rfl rfl (fun w => Tryz.call57 _ w) (get_c 4 _ b (o + (26 + 4 * i)) (252 - (26 + 4 * i)) (c - (26 + 4 * i)) ((sec.drop (26 + 4 * i)).take (252 - (26 + 4 * i))) _ (fun h q => (hA h q).cut (lo := (26 + 4 * i)) (m := (252 - (26 + 4 * i))) (c' := (c - (26 + 4 * i))) (by omega) (by omega) (by omega)) (by omega) (by omega) ((sec.drop (26 + 4 * i)).take 4) (by rw [List.take_take, Nat.min_eq_left (by omega)]) (o + (26 + 4 * (i + 1))) (252 - (26 + 4 * (i + 1))) (c - (26 + 4 * (i + 1))) (by omega) (by omega) (by omega)) H 3 [1, 2, 0] rfl rfl ?_
              rintro _ w _ ⟨rfl, rfl⟩ H'
              have H : Sep z (blk b2 [.slice (some ⟨b, (o + (26 + 4 * (i + 1))), none⟩) (252 - (26 + 4 * (i + 1))) (c - (26 + 4 * (i + 1)))] 129 :: A :: grow 3 1 v i (hN sec i) :: blk b3 [.int .i64 (getI ((sec.drop 4).take 8)), .int .i64 (getI ((sec.drop 12).take 8)), v, u32 (w32 (getI ((sec.drop 20).take 4)))] 100 :: tblA pt :: blk b1 [.int .i64 0, .int .i64 0, .slice none 0 0, u32 0] 100 :: R) w := H'
              clear H'
              refine s_do rfl rfl rfl (d_assign rfl rfl) ?_
              refine s_end ?_
              refine k_seq ?_
              refine k_seq ?_
              refine s_region ?_
              refine s_do rfl rfl rfl (d_move rfl rfl) ?_
              refine s_callC rfl rfl rfl rfl rfl (fun w => Tryz.call47 _ w) (in_c _ _) H 0 [] rfl rfl ?_
              rintro _ w _ ⟨rfl, rfl⟩ H'
              have H : Sep z (blk b2 [.slice (some ⟨b, (o + (26 + 4 * (i + 1))), none⟩) (252 - (26 + 4 * (i + 1))) (c - (26 + 4 * (i + 1)))] 129 :: A :: grow 3 1 v i (hN sec i) :: blk b3 [.int .i64 (getI ((sec.drop 4).take 8)), .int .i64 (getI ((sec.drop 12).take 8)), v, u32 (w32 (getI ((sec.drop 20).take 4)))] 100 :: tblA pt :: blk b1 [.int .i64 0, .int .i64 0, .slice none 0 0, u32 0] 100 :: R) w := H'
              clear H'
              refine s_do rfl rfl rfl (d_not_dec rfl rfl) ?_
              refine s_end ?_
              refine k_dec rfl (fun h6 => ?_) (fun h6 => ?_)
              · -- yes: ¬ ((0 : Int) ≤ (hNum sec i) ∧ (hNum sec i) ≤ 1023)
                refine k_seq ?_
                refine s_region ?_
                refine s_do rfl rfl rfl (d_build rfl rfl (out := [.int .i64 0, .int .i64 0, .slice none 0 0, u32 0]) (by kernel_rfl)) ?_
                refine s_put rfl rfl (n_store 5 H rfl rfl rfl rfl (vs := [.int .i64 0, .int .i64 0, .slice none 0 0, u32 0]) rfl (by simp [u8, u32, Value.oneCell']) (by kernel_rfl) (by simp) (out := [.int .i64 0, .int .i64 0, .slice none 0 0, u32 0]) rfl) ?_
                rintro w H'
                have H : Sep z (blk b2 [.slice (some ⟨b, (o + (26 + 4 * (i + 1))), none⟩) (252 - (26 + 4 * (i + 1))) (c - (26 + 4 * (i + 1)))] 129 :: A :: grow 3 1 v i (hN sec i) :: blk b3 [.int .i64 (getI ((sec.drop 4).take 8)), .int .i64 (getI ((sec.drop 12).take 8)), v, u32 (w32 (getI ((sec.drop 20).take 4)))] 100 :: tblA pt :: blk b1 [.int .i64 0, .int .i64 0, .slice none 0 0, u32 0] 100 :: R) w := H'
                clear H'
                refine s_do rfl rfl rfl (d_assign rfl rfl) ?_
                refine s_end ?_
                refine k_ret ?_
                refine doneL rfl [.agg #[.int .i64 0, .int .i64 0, .slice none 0 0, u32 0], .bool false] ⟨⟨_, _, rfl, run_loadBlk (by kernel_rfl) (H.blk 5 rfl) (vs := [.int .i64 0, .int .i64 0, .slice none 0 0, u32 0]) rfl⟩, ⟨rfl, trivial⟩⟩ (v := .tuple #[.agg #[.int .i64 0, .int .i64 0, .slice none 0 0, u32 0], .bool false]) rfl ?_
                exact ⟨[tblA pt, A], .inr ⟨by first | exact fun q => hs q.1 | (rintro ⟨q0, q1, q2, q3, q4, q5⟩; first | (exfalso; omega) | exact absurd (q4 i (by omega)) ‹_› | (rw [hm2] at q5; exact absurd q5 ‹_›)), rfl, rfl⟩, H.perm 6 [4, 1] rfl rfl⟩
              · -- no: ¬ ((0 : Int) ≤ (hNum sec i) ∧ (hNum sec i) ≤ 1023)
                refine k_skip ?_
                refine s_region ?_
                refine s_do rfl rfl rfl (d_field rfl (k := 2) (r := 2) (by kernel_rfl) rfl rfl) ?_
                refine s_do rfl rfl rfl (d_load rfl rfl (by kernel_rfl) (here (H.cel 3 rfl 2 rfl))) ?_
                refine s_do rfl rfl rfl (d_move rfl rfl) ?_
                refine s_go rfl rfl rfl (n_buildSlice H rfl (by kernel_rfl) (Elt.mk (P := Tryz.prog) (e := 3) (z := .int .i64 0) (sz := 1) (by_ := 8) (by kernel_rfl) rfl (by omega) (by omega)) rfl (by decide) (by decide) (out := [.int .i64 (hNum sec i)]) (by kernel_rfl)) ?_
                rintro _ w ⟨b4, rfl, H'⟩
                have H : Sep z (blk b4 [.int .i64 (hNum sec i)] 3 :: blk b2 [.slice (some ⟨b, (o + (26 + 4 * (i + 1))), none⟩) (252 - (26 + 4 * (i + 1))) (c - (26 + 4 * (i + 1)))] 129 :: A :: grow 3 1 v i (hN sec i) :: blk b3 [.int .i64 (getI ((sec.drop 4).take 8)), .int .i64 (getI ((sec.drop 12).take 8)), v, u32 (w32 (getI ((sec.drop 20).take 4)))] 100 :: tblA pt :: blk b1 [.int .i64 0, .int .i64 0, .slice none 0 0, u32 0] 100 :: R) w := H'
                clear H'
                refine s_go rfl rfl rfl (n_append 3 H rfl rfl (by kernel_rfl) (Elt.mk (P := Tryz.prog) (e := 3) (z := .int .i64 0) (sz := 1) (by_ := 8) (by kernel_rfl) rfl (by omega) (by omega)) rfl rfl (H.rd 0 rfl (fun h q => q.rd (by omega) (by omega) (by simp) rfl)) (by simp [Value.oneCell']) (by omega)) ?_
                rintro v5 w H'
                have H' : Sep z (blk b4 [.int .i64 (hNum sec i)] 3 :: blk b2 [.slice (some ⟨b, (o + (26 + 4 * (i + 1))), none⟩) (252 - (26 + 4 * (i + 1))) (c - (26 + 4 * (i + 1)))] 129 :: A :: grow 3 1 v5 (i + 1) (hN sec i ++ [.int .i64 (hNum sec i)]) :: blk b3 [.int .i64 (getI ((sec.drop 4).take 8)), .int .i64 (getI ((sec.drop 12).take 8)), v, u32 (w32 (getI ((sec.drop 20).take 4)))] 100 :: tblA pt :: blk b1 [.int .i64 0, .int .i64 0, .slice none 0 0, u32 0] 100 :: R) w := H'
                have ev5 : (hN sec i ++ [.int .i64 (hNum sec i)] : List Value) = hN sec (i + 1) := hN_succ sec i
                rw [ev5] at H'
                have H : Sep z (blk b4 [.int .i64 (hNum sec i)] 3 :: blk b2 [.slice (some ⟨b, (o + (26 + 4 * (i + 1))), none⟩) (252 - (26 + 4 * (i + 1))) (c - (26 + 4 * (i + 1)))] 129 :: A :: grow 3 1 v5 (i + 1) (hN sec (i + 1)) :: blk b3 [.int .i64 (getI ((sec.drop 4).take 8)), .int .i64 (getI ((sec.drop 12).take 8)), v, u32 (w32 (getI ((sec.drop 20).take 4)))] 100 :: tblA pt :: blk b1 [.int .i64 0, .int .i64 0, .slice none 0 0, u32 0] 100 :: R) w := H'
                clear H'
                have sv5 := H.says 3 rfl (fun h q => q.slc)
                refine s_do rfl rfl rfl (d_field rfl (k := 2) (r := 2) (by kernel_rfl) rfl rfl) ?_
                refine s_put rfl rfl (n_store 4 H rfl rfl rfl rfl (vs := [v5]) sv5.cells (one_cons sv5.one one_nil) (by kernel_rfl) (by simp) (out := [.int .i64 (getI ((sec.drop 4).take 8)), .int .i64 (getI ((sec.drop 12).take 8)), v5, u32 (w32 (getI ((sec.drop 20).take 4)))]) rfl) ?_
                rintro w H'
                have H : Sep z (blk b4 [.int .i64 (hNum sec i)] 3 :: blk b2 [.slice (some ⟨b, (o + (26 + 4 * (i + 1))), none⟩) (252 - (26 + 4 * (i + 1))) (c - (26 + 4 * (i + 1)))] 129 :: A :: grow 3 1 v5 (i + 1) (hN sec (i + 1)) :: blk b3 [.int .i64 (getI ((sec.drop 4).take 8)), .int .i64 (getI ((sec.drop 12).take 8)), v5, u32 (w32 (getI ((sec.drop 20).take 4)))] 100 :: tblA pt :: blk b1 [.int .i64 0, .int .i64 0, .slice none 0 0, u32 0] 100 :: R) w := H'
                clear H'
                refine s_end ?_
                refine s_region ?_
                refine s_do rfl rfl rfl (d_add64 rfl rfl rfl (r := (i : Int) + 1) (by omega) (by omega)) ?_
                refine s_do rfl rfl rfl (d_move rfl rfl) ?_
                refine s_end ?_
                have H' := H.pick 7 [3, 1, 2, 4, 5, 6] rfl
                have H : Sep z (grow 3 1 v5 (i + 1) (hN sec (i + 1)) :: blk b2 [.slice (some ⟨b, (o + (26 + 4 * (i + 1))), none⟩) (252 - (26 + 4 * (i + 1))) (c - (26 + 4 * (i + 1)))] 129 :: A :: blk b3 [.int .i64 (getI ((sec.drop 4).take 8)), .int .i64 (getI ((sec.drop 12).take 8)), v5, u32 (w32 (getI ((sec.drop 20).take 4)))] 100 :: tblA pt :: blk b1 [.int .i64 0, .int .i64 0, .slice none 0 0, u32 0] 100 :: R) w := H'
                clear H'
                intro _ hF
                refine ⟨⟨i + 1, v5⟩, (hF.cons (hF.cons (hF.cons (hF.cons (hF.cons hF.nil 45 _ _ rfl rfl) 8 _ _ rfl rfl) 6 _ _ rfl rfl) 4 _ _ rfl rfl) 46 _ _ rfl (by go_num)), ⟨H, ?_⟩, ?_⟩
                · refine ⟨by omega, fun j h => ?_⟩
                  rcases Nat.lt_or_ge j i with q | q
                  · exact hall j q
                  · obtain rfl : j = i := by omega
                    unfold hNum; omega
                · omega
            · -- no: (i : Int) < (m : Int)
              obtain rfl : i = m := by omega
              refine k_exit ?_
              refine k_here ?_
              refine k_seq ?_
              refine k_seq ?_
              refine s_region ?_
              refine s_callC rfl rfl rfl rfl rfl (fun w => Tryz.call58 _ w) (bare_c _ b (o + (26 + 4 * i)) (252 - (26 + 4 * i)) (c - (26 + 4 * i)) ((sec.drop (26 + 4 * i)).take (252 - (26 + 4 * i))) _ (fun h q => (hA h q).cut (lo := (26 + 4 * i)) (m := (252 - (26 + 4 * i))) (c' := (c - (26 + 4 * i))) (by omega) (by omega) (by omega)) (by omega)) H 3 [1, 2, 0] rfl rfl ?_
              rintro _ w _ ⟨rfl, rfl⟩ H'
              have H : Sep z (blk b2 [.slice (some ⟨b, (o + (26 + 4 * i)), none⟩) (252 - (26 + 4 * i)) (c - (26 + 4 * i))] 129 :: A :: grow 3 1 v i (hN sec i) :: blk b3 [.int .i64 (getI ((sec.drop 4).take 8)), .int .i64 (getI ((sec.drop 12).take 8)), v, u32 (w32 (getI ((sec.drop 20).take 4)))] 100 :: tblA pt :: blk b1 [.int .i64 0, .int .i64 0, .slice none 0 0, u32 0] 100 :: R) w := H'
              clear H'
              refine s_do rfl rfl rfl (d_not_dec rfl rfl) ?_
              refine s_end ?_
              refine k_dec rfl (fun h7 => ?_) (fun h7 => ?_)
              · -- yes: ¬ (rz ((sec.drop (26 + 4 * i)).take (252 - (26 + 4 * i))) = 0)
                refine k_seq ?_
                refine s_region ?_
                refine s_do rfl rfl rfl (d_build rfl rfl (out := [.int .i64 0, .int .i64 0, .slice none 0 0, u32 0]) (by kernel_rfl)) ?_
                refine s_put rfl rfl (n_store 5 H rfl rfl rfl rfl (vs := [.int .i64 0, .int .i64 0, .slice none 0 0, u32 0]) rfl (by simp [u8, u32, Value.oneCell']) (by kernel_rfl) (by simp) (out := [.int .i64 0, .int .i64 0, .slice none 0 0, u32 0]) rfl) ?_
                rintro w H'
                have H : Sep z (blk b2 [.slice (some ⟨b, (o + (26 + 4 * i)), none⟩) (252 - (26 + 4 * i)) (c - (26 + 4 * i))] 129 :: A :: grow 3 1 v i (hN sec i) :: blk b3 [.int .i64 (getI ((sec.drop 4).take 8)), .int .i64 (getI ((sec.drop 12).take 8)), v, u32 (w32 (getI ((sec.drop 20).take 4)))] 100 :: tblA pt :: blk b1 [.int .i64 0, .int .i64 0, .slice none 0 0, u32 0] 100 :: R) w := H'
                clear H'
                refine s_do rfl rfl rfl (d_assign rfl rfl) ?_
                refine s_end ?_
                refine k_ret ?_
                refine doneL rfl [.agg #[.int .i64 0, .int .i64 0, .slice none 0 0, u32 0], .bool false] ⟨⟨_, _, rfl, run_loadBlk (by kernel_rfl) (H.blk 5 rfl) (vs := [.int .i64 0, .int .i64 0, .slice none 0 0, u32 0]) rfl⟩, ⟨rfl, trivial⟩⟩ (v := .tuple #[.agg #[.int .i64 0, .int .i64 0, .slice none 0 0, u32 0], .bool false]) rfl ?_
                exact ⟨[tblA pt, A], .inr ⟨by first | exact fun q => hs q.1 | (rintro ⟨q0, q1, q2, q3, q4, q5⟩; first | (exfalso; omega) | exact absurd (q4 i (by omega)) ‹_› | (rw [hm2] at q5; exact absurd q5 ‹_›)), rfl, rfl⟩, H.perm 6 [4, 1] rfl rfl⟩
              · -- no: ¬ (rz ((sec.drop (26 + 4 * i)).take (252 - (26 + 4 * i))) = 0)
                refine k_skip ?_
                refine k_seq ?_
                refine s_region ?_
                refine s_do rfl rfl rfl (d_loadAgg rfl rfl (vs := [.int .i64 (getI ((sec.drop 4).take 8)), .int .i64 (getI ((sec.drop 12).take 8)), v, u32 (w32 (getI ((sec.drop 20).take 4)))]) (by kernel_rfl) (here ((H.blk 3 rfl).part 0 4 _ rfl))) ?_
                refine s_put rfl rfl (n_store 5 H rfl rfl rfl rfl (vs := [.int .i64 (getI ((sec.drop 4).take 8)), .int .i64 (getI ((sec.drop 12).take 8)), v, u32 (w32 (getI ((sec.drop 20).take 4)))]) rfl (one_cons rfl (one_cons rfl (one_cons sv.one (one_cons rfl one_nil)))) (by kernel_rfl) (by simp) (out := [.int .i64 (getI ((sec.drop 4).take 8)), .int .i64 (getI ((sec.drop 12).take 8)), v, u32 (w32 (getI ((sec.drop 20).take 4)))]) rfl) ?_
                rintro w H'
                have H : Sep z (blk b2 [.slice (some ⟨b, (o + (26 + 4 * i)), none⟩) (252 - (26 + 4 * i)) (c - (26 + 4 * i))] 129 :: A :: grow 3 1 v i (hN sec i) :: blk b3 [.int .i64 (getI ((sec.drop 4).take 8)), .int .i64 (getI ((sec.drop 12).take 8)), v, u32 (w32 (getI ((sec.drop 20).take 4)))] 100 :: tblA pt :: blk b1 [.int .i64 (getI ((sec.drop 4).take 8)), .int .i64 (getI ((sec.drop 12).take 8)), v, u32 (w32 (getI ((sec.drop 20).take 4)))] 100 :: R) w := H'
                clear H'
                refine s_do rfl rfl rfl (d_assign rfl rfl) ?_
                refine s_end ?_
                refine k_ret ?_
                refine doneL rfl [.agg #[.int .i64 (getI ((sec.drop 4).take 8)), .int .i64 (getI ((sec.drop 12).take 8)), v, u32 (w32 (getI ((sec.drop 20).take 4)))], .bool true] ⟨⟨_, _, rfl, run_loadBlk (by kernel_rfl) (H.blk 5 rfl) (vs := [.int .i64 (getI ((sec.drop 4).take 8)), .int .i64 (getI ((sec.drop 12).take 8)), v, u32 (w32 (getI ((sec.drop 20).take 4)))]) rfl⟩, ⟨rfl, trivial⟩⟩ (v := .tuple #[.agg #[.int .i64 (getI ((sec.drop 4).take 8)), .int .i64 (getI ((sec.drop 12).take 8)), v, u32 (w32 (getI ((sec.drop 20).take 4)))], .bool true]) rfl ?_
                subst hm2
                exact ⟨[grow 3 1 v (hCnt sec) (hN sec (hCnt sec)), tblA pt, A], .inl ⟨⟨hs, by omega, by omega, by omega, hall, by omega⟩, v, rfl, rfl⟩, H.perm 6 [2, 4, 1] rfl rfl⟩
  · -- a case
    have H : Sep z (tblA pt :: A :: blk b1 [.int .i64 0, .int .i64 0, .slice none 0 0, u32 0] 100 :: R) w := H'
    clear H'
    refine s_do rfl rfl rfl (d_move rfl rfl) ?_
    refine s_do rfl rfl rfl (d_extract rfl rfl rfl) ?_
    refine s_do rfl rfl rfl (d_extract rfl rfl rfl) ?_
    refine s_go rfl rfl rfl (n_alloc (P := Tryz.prog) H rfl (zs := [.slice none 0 0]) (by kernel_rfl)) ?_
    rintro _ w ⟨b6, rfl, H'⟩
    have H : Sep z (blk b6 [.slice none 0 0] 129 :: tblA pt :: A :: blk b1 [.int .i64 0, .int .i64 0, .slice none 0 0, u32 0] 100 :: R) w := H'
    clear H'
    refine s_put rfl rfl (n_store 0 H rfl rfl rfl rfl (vs := [.slice none 0 0]) rfl (by simp [u8, u32, Value.oneCell']) (by kernel_rfl) (by simp) (out := [.slice none 0 0]) rfl) ?_
    rintro w H'
    have H : Sep z (blk b6 [.slice none 0 0] 129 :: tblA pt :: A :: blk b1 [.int .i64 0, .int .i64 0, .slice none 0 0, u32 0] 100 :: R) w := H'
    clear H'
    refine s_do rfl rfl rfl (d_assign rfl rfl) ?_
    refine s_end ?_
    refine k_seq ?_
    refine k_seq ?_
    refine s_region ?_
    refine s_do rfl rfl rfl (d_move rfl rfl) ?_
    refine s_do rfl rfl rfl (d_not rfl rfl) ?_
    refine s_end ?_
    refine k_true rfl ?_
    refine k_seq ?_
    refine s_region ?_
    refine s_do rfl rfl rfl (d_build rfl rfl (out := [.int .i64 0, .int .i64 0, .slice none 0 0, u32 0]) (by kernel_rfl)) ?_
    refine s_put rfl rfl (n_store 3 H rfl rfl rfl rfl (vs := [.int .i64 0, .int .i64 0, .slice none 0 0, u32 0]) rfl (by simp [u8, u32, Value.oneCell']) (by kernel_rfl) (by simp) (out := [.int .i64 0, .int .i64 0, .slice none 0 0, u32 0]) rfl) ?_
    rintro w H'
    have H : Sep z (blk b6 [.slice none 0 0] 129 :: tblA pt :: A :: blk b1 [.int .i64 0, .int .i64 0, .slice none 0 0, u32 0] 100 :: R) w := H'
    clear H'
    refine s_do rfl rfl rfl (d_assign rfl rfl) ?_
    refine s_end ?_
    refine k_ret ?_
    refine doneL rfl [.agg #[.int .i64 0, .int .i64 0, .slice none 0 0, u32 0], .bool false] ⟨⟨_, _, rfl, run_loadBlk (by kernel_rfl) (H.blk 3 rfl) (vs := [.int .i64 0, .int .i64 0, .slice none 0 0, u32 0]) rfl⟩, ⟨rfl, trivial⟩⟩ (v := .tuple #[.agg #[.int .i64 0, .int .i64 0, .slice none 0 0, u32 0], .bool false]) rfl ?_
    exact ⟨[tblA pt, A], .inr ⟨by first | exact fun q => hs q.1 | (rintro ⟨q0, q1, q2, q3, q4, q5⟩; first | (exfalso; omega) | exact absurd (q4 i (by omega)) ‹_› | (rw [hm2] at q5; exact absurd q5 ‹_›)), rfl, rfl⟩, H.perm 4 [1, 2] rfl rfl⟩

theorem getImage_c (pt b o c : Nat) (sec : List UInt8) (A : Asn) (hA : ∀ h, A h → rdH 1 (.slice (some ⟨b, o, none⟩) 256 c) 256 (sec.map u8) h) : Cn Tryz.prog 46 [.pointer (some ⟨pt, 0, none⟩), .slice (some ⟨b, o, none⟩) 256 c] [tblA pt, A] (fun v Γ => (imgP sec ∧ ∃ g cap rest, v = .tuple #[.int .i64 (getI ((sec.drop 3).take 4)), .int .i64 (getI ((sec.drop 7).take 5)), .agg #[.int .i64 (getI ((sec.drop 1).take 2)), .int .i64 (getI (sec.take 1)), .slice (some ⟨g, 0, none⟩) 240 cap], .bool true] ∧ (240 ≤ cap ∧ cap ≤ 9223372036854775807 ∧ rest.length = cap - 240) ∧ Γ = [blk g (((sec.drop 12).take 240).map u8 ++ rest) 5, tblA pt, A]) ∨ (¬ imgP sec ∧ v = .tuple #[.int .i64 0, .int .i64 0, .agg #[.int .i64 0, .int .i64 0, .slice none 0 0], .bool false] ∧ Γ = [tblA pt, A])) := by
  intro z R w H'
  have H : Sep z (tblA pt :: A :: R) w := H'
  clear H'
  have hsl := H.says 1 rfl (fun h q => (hA h q).len)
  have hcb := H.says 1 rfl (fun h q => (hA h q).cap)
  obtain ⟨c0, c1, c2, c3, hd⟩ := four hsl
  refine enter Tryz.func46 rfl 60 Tryz.ntmps46 rfl ?_
  refine k_seq ?_
  refine s_region ?_
  refine s_do rfl rfl rfl (d_assign rfl rfl) ?_
  refine s_do rfl rfl rfl (d_assign rfl rfl) ?_
  refine s_go rfl rfl rfl (n_alloc (P := Tryz.prog) H rfl (zs := [.int .i64 0, .int .i64 0, .slice none 0 0]) (by kernel_rfl)) ?_
  rintro _ w ⟨b1, rfl, H'⟩
  have H : Sep z (blk b1 [.int .i64 0, .int .i64 0, .slice none 0 0] 85 :: tblA pt :: A :: R) w := H'
  clear H'
  refine s_do rfl rfl rfl (d_assign rfl rfl) ?_
  refine s_end ?_
  refine k_seq ?_
  refine k_seq ?_
  refine q_region (Sep z (blk b1 [.int .i64 0, .int .i64 0, .slice none 0 0] 85 :: tblA pt :: A :: R)) (by kernel_rfl) (by kernel_rfl) H.drew ?_
  refine q_do rfl rfl rfl (d_move rfl rfl) ?_
  refine q_do rfl rfl rfl (d_len rfl (z := 1) (by kernel_rfl) rfl) ?_
  refine q_do rfl rfl rfl (d_neq rfl rfl rfl) ?_
  refine k_updA 15 (u := .bool (decide ((256 : Int) ≠ 256))) (v := .bool false) rfl (congrArg Value.bool (by decide)) ?_
  refine q_do rfl rfl rfl (d_move rfl rfl) ?_
  refine q_do rfl rfl rfl (d_move rfl rfl) ?_
  refine q_do rfl rfl rfl (d_eql_pn rfl (by kernel_rfl) rfl rfl) ?_
  refine q_do rfl rfl rfl (d_pick_f rfl rfl rfl) ?_
  refine q_do rfl rfl rfl (d_move rfl rfl) ?_
  refine q_do rfl rfl rfl (d_move rfl rfl) ?_
  refine q_do rfl rfl rfl (d_sliceC rfl (z := 1) (p := 252) (q := 256) (o' := o + 252) (l' := 4) (c' := c - 252) (by kernel_rfl) rfl (.inr ⟨_, _, _, rfl, rfl, rfl⟩) (.inl ⟨rfl, rfl⟩) (by omega) (by omega) (by omega) (by omega) (by omega) (by omega)) ?_
  refine q_do rfl rfl rfl (d_arrayAt (m := 4) rfl (by kernel_rfl) rfl (by omega)) ?_
  refine q_do rfl rfl rfl (d_loadAgg rfl rfl (vs := [u8 c0, u8 c1, u8 c2, u8 c3]) (by kernel_rfl) (fun _ hx => hx.cell4 2 rfl hA hd)) ?_
  refine q_do rfl rfl rfl (d_move rfl rfl) ?_
  refine q_do rfl rfl rfl (d_move rfl rfl) ?_
  refine q_do rfl rfl rfl (d_sliceC rfl (z := 1) (p := 0) (q := 252) (o' := o) (l' := 252) (c' := c) (by kernel_rfl) rfl (.inl ⟨rfl, rfl⟩) (.inr ⟨_, _, _, rfl, rfl, rfl⟩) (by omega) (by omega) (by omega) (by omega) (by omega) (by omega)) ?_
  refine q_call rfl rfl rfl rfl rfl (fun w => Tryz.call61 _ w) (v := .agg #[u8 ((crcSum (sec.take 252)).toUInt8), u8 (((crcSum (sec.take 252)) >>> 8).toUInt8), u8 (((crcSum (sec.take 252)) >>> 16).toUInt8), u8 (((crcSum (sec.take 252)) >>> 24).toUInt8)]) (cq (csum_c _ _ _ (sec.take 252) (by simp [hsl]) _ (fun h q => (hA h q).pre (by omega) (by omega))) (by rintro _ _ ⟨rfl, rfl⟩; exact ⟨rfl, rfl⟩) 3 [1, 2, 0] [2, 0, 1] rfl rfl rfl rfl) ?_
  refine q_do rfl rfl rfl (d_neqA4 rfl (by kernel_rfl) (by kernel_rfl) rfl rfl) ?_
  refine q_do rfl rfl rfl (d_pick_f rfl rfl rfl) ?_
  refine q_end (fun w H' => ?_)
  have H : Sep z (blk b1 [.int .i64 0, .int .i64 0, .slice none 0 0] 85 :: tblA pt :: A :: R) w := H'
  clear H'
  refine k_dec rfl (fun h1 => ?_) (fun h1 => ?_)
  · -- yes: [c0, c1, c2, c3] ≠ sumB (crcSum (sec.take 252))
    refine k_seq ?_
    refine s_region ?_
    refine s_do rfl rfl rfl (d_build rfl rfl (out := [.int .i64 0, .int .i64 0, .slice none 0 0]) (by kernel_rfl)) ?_
    refine s_do rfl rfl rfl (d_assign rfl rfl) ?_
    refine s_do rfl rfl rfl (d_assign rfl rfl) ?_
    refine s_put rfl rfl (n_store 0 H rfl rfl rfl rfl (vs := [.int .i64 0, .int .i64 0, .slice none 0 0]) rfl (by simp [u8, u32, Value.oneCell']) (by kernel_rfl) (by simp) (out := [.int .i64 0, .int .i64 0, .slice none 0 0]) rfl) ?_
    rintro w H'
    have H : Sep z (blk b1 [.int .i64 0, .int .i64 0, .slice none 0 0] 85 :: tblA pt :: A :: R) w := H'
    clear H'
    refine s_do rfl rfl rfl (d_assign rfl rfl) ?_
    refine s_end ?_
    refine k_ret ?_
    refine doneL rfl [.int .i64 0, .int .i64 0, .agg #[.int .i64 0, .int .i64 0, .slice none 0 0], .bool false] ⟨rfl, ⟨rfl, ⟨⟨_, _, rfl, run_loadBlk (by kernel_rfl) (H.blk 0 rfl) (vs := [.int .i64 0, .int .i64 0, .slice none 0 0]) rfl⟩, ⟨rfl, trivial⟩⟩⟩⟩ (v := .tuple #[.int .i64 0, .int .i64 0, .agg #[.int .i64 0, .int .i64 0, .slice none 0 0], .bool false]) rfl ?_
    exact ⟨[tblA pt, A], .inr ⟨by rintro ⟨q1, q2, q3⟩; first | exact absurd (hd ▸ q1) ‹_› | (exfalso; omega), rfl, rfl⟩, H.perm 3 [1, 2] rfl rfl⟩
  · -- no: [c0, c1, c2, c3] ≠ sumB (crcSum (sec.take 252))
    refine k_skip ?_
    refine k_seq ?_
    refine s_region ?_
    refine s_do rfl rfl rfl (d_move rfl rfl) ?_
    refine s_do rfl rfl rfl (d_sliceC rfl (z := 1) (p := 0) (q := 252) (o' := o) (l' := 252) (c' := c) (by kernel_rfl) rfl (.inl ⟨rfl, rfl⟩) (.inr ⟨_, _, _, rfl, rfl, rfl⟩) (by omega) (by omega) (by omega) (by omega) (by omega) (by omega)) ?_
    refine s_do rfl rfl rfl (d_build rfl rfl (out := [.slice (some ⟨b, o, none⟩) 252 c]) (by kernel_rfl)) ?_
    refine s_go rfl rfl rfl (n_alloc (P := Tryz.prog) H rfl (zs := [.slice none 0 0]) (by kernel_rfl)) ?_
    rintro _ w ⟨b2, rfl, H'⟩
    have H : Sep z (blk b2 [.slice none 0 0] 129 :: blk b1 [.int .i64 0, .int .i64 0, .slice none 0 0] 85 :: tblA pt :: A :: R) w := H'
    clear H'
    refine s_put rfl rfl (n_store 0 H rfl rfl rfl rfl (vs := [.slice (some ⟨b, o, none⟩) 252 c]) rfl (by simp [u8, u32, Value.oneCell']) (by kernel_rfl) (by simp) (out := [.slice (some ⟨b, o, none⟩) 252 c]) rfl) ?_
    rintro w H'
    have H : Sep z (blk b2 [.slice (some ⟨b, o, none⟩) 252 c] 129 :: blk b1 [.int .i64 0, .int .i64 0, .slice none 0 0] 85 :: tblA pt :: A :: R) w := H'
    clear H'
    refine s_end ?_
    refine k_seq ?_
    refine s_region ?_
    refine s_callC rfl rfl rfl rfl rfl (fun w => Tryz.call57 _ w) (get_c 1 _ b o 252 c (sec.take 252) _ (fun h q => (hA h q).pre (m := 252) (c' := c) (by omega) (by omega)) (by omega) (by omega) (sec.take 1) (by rw [List.take_take, Nat.min_eq_left (by omega)]) (o + 1) 251 (c - 1) (by omega) (by omega) (by omega)) H 4 [0, 3, 1, 2] rfl rfl ?_
    rintro _ w _ ⟨rfl, rfl⟩ H'
    have H : Sep z (blk b2 [.slice (some ⟨b, (o + 1), none⟩) 251 (c - 1)] 129 :: A :: blk b1 [.int .i64 0, .int .i64 0, .slice none 0 0] 85 :: tblA pt :: R) w := H'
    clear H'
    refine s_callC rfl rfl rfl rfl rfl (fun w => Tryz.call57 _ w) (get_c 2 _ b (o + 1) 251 (c - 1) ((sec.drop 1).take 251) _ (fun h q => (hA h q).cut (lo := 1) (m := 251) (c' := (c - 1)) (by omega) (by omega) (by omega)) (by omega) (by omega) ((sec.drop 1).take 2) (by rw [List.take_take, Nat.min_eq_left (by omega)]) (o + 3) 249 (c - 3) (by omega) (by omega) (by omega)) H 2 [0, 1] rfl rfl ?_
    rintro _ w _ ⟨rfl, rfl⟩ H'
    have H : Sep z (blk b2 [.slice (some ⟨b, (o + 3), none⟩) 249 (c - 3)] 129 :: A :: blk b1 [.int .i64 0, .int .i64 0, .slice none 0 0] 85 :: tblA pt :: R) w := H'
    clear H'
    refine s_callC rfl rfl rfl rfl rfl (fun w => Tryz.call57 _ w) (get_c 4 _ b (o + 3) 249 (c - 3) ((sec.drop 3).take 249) _ (fun h q => (hA h q).cut (lo := 3) (m := 249) (c' := (c - 3)) (by omega) (by omega) (by omega)) (by omega) (by omega) ((sec.drop 3).take 4) (by rw [List.take_take, Nat.min_eq_left (by omega)]) (o + 7) 245 (c - 7) (by omega) (by omega) (by omega)) H 2 [0, 1] rfl rfl ?_
    rintro _ w _ ⟨rfl, rfl⟩ H'
    have H : Sep z (blk b2 [.slice (some ⟨b, (o + 7), none⟩) 245 (c - 7)] 129 :: A :: blk b1 [.int .i64 0, .int .i64 0, .slice none 0 0] 85 :: tblA pt :: R) w := H'
    clear H'
    refine s_callC rfl rfl rfl rfl rfl (fun w => Tryz.call57 _ w) (get_c 5 _ b (o + 7) 245 (c - 7) ((sec.drop 7).take 245) _ (fun h q => (hA h q).cut (lo := 7) (m := 245) (c' := (c - 7)) (by omega) (by omega) (by omega)) (by omega) (by omega) ((sec.drop 7).take 5) (by rw [List.take_take, Nat.min_eq_left (by omega)]) (o + 12) 240 (c - 12) (by omega) (by omega) (by omega)) H 2 [0, 1] rfl rfl ?_
    rintro _ w _ ⟨rfl, rfl⟩ H'
    have H : Sep z (blk b2 [.slice (some ⟨b, (o + 12), none⟩) 240 (c - 12)] 129 :: A :: blk b1 [.int .i64 0, .int .i64 0, .slice none 0 0] 85 :: tblA pt :: R) w := H'
    clear H'
    refine s_do rfl rfl rfl (d_assign rfl rfl) ?_
    refine s_do rfl rfl rfl (d_assign rfl rfl) ?_
    refine s_do rfl rfl rfl (d_assign rfl rfl) ?_
    refine s_do rfl rfl rfl (d_assign rfl rfl) ?_
    refine s_end ?_
    refine k_seq ?_
    refine k_seq ?_
    refine s_region ?_
    refine s_do rfl rfl rfl (d_move rfl rfl) ?_
    refine s_do rfl rfl rfl (d_lss rfl rfl rfl) ?_
    refine s_do rfl rfl rfl (d_move rfl rfl) ?_
    refine s_part 41 rfl (fun h2 => ?_) (fun h2 => ?_)
    · -- yes: (getI (sec.take 1) : Int) < 1
      refine s_skip rfl rfl rfl ?_
      refine s_skip rfl rfl rfl ?_
      refine s_do rfl rfl rfl (d_pick_t rfl rfl rfl) ?_
      refine s_do rfl rfl rfl (d_move rfl rfl) ?_
      refine s_skip rfl rfl rfl ?_
      refine s_skip rfl rfl rfl ?_
      refine s_skip rfl rfl rfl ?_
      refine s_do rfl rfl rfl (d_pick_t rfl rfl rfl) ?_
      refine s_end ?_
      refine k_true rfl ?_
      refine k_seq ?_
      refine s_region ?_
      refine s_do rfl rfl rfl (d_build rfl rfl (out := [.int .i64 0, .int .i64 0, .slice none 0 0]) (by kernel_rfl)) ?_
      refine s_do rfl rfl rfl (d_assign rfl rfl) ?_
      refine s_do rfl rfl rfl (d_assign rfl rfl) ?_
      refine s_put rfl rfl (n_store 2 H rfl rfl rfl rfl (vs := [.int .i64 0, .int .i64 0, .slice none 0 0]) rfl (by simp [u8, u32, Value.oneCell']) (by kernel_rfl) (by simp) (out := [.int .i64 0, .int .i64 0, .slice none 0 0]) rfl) ?_
      rintro w H'
      have H : Sep z (blk b2 [.slice (some ⟨b, (o + 12), none⟩) 240 (c - 12)] 129 :: A :: blk b1 [.int .i64 0, .int .i64 0, .slice none 0 0] 85 :: tblA pt :: R) w := H'
      clear H'
      refine s_do rfl rfl rfl (d_assign rfl rfl) ?_
      refine s_end ?_
      refine k_ret ?_
      refine doneL rfl [.int .i64 0, .int .i64 0, .agg #[.int .i64 0, .int .i64 0, .slice none 0 0], .bool false] ⟨rfl, ⟨rfl, ⟨⟨_, _, rfl, run_loadBlk (by kernel_rfl) (H.blk 2 rfl) (vs := [.int .i64 0, .int .i64 0, .slice none 0 0]) rfl⟩, ⟨rfl, trivial⟩⟩⟩⟩ (v := .tuple #[.int .i64 0, .int .i64 0, .agg #[.int .i64 0, .int .i64 0, .slice none 0 0], .bool false]) rfl ?_
      exact ⟨[tblA pt, A], .inr ⟨by rintro ⟨q1, q2, q3⟩; first | exact absurd (hd ▸ q1) ‹_› | (exfalso; omega), rfl, rfl⟩, H.perm 4 [3, 1] rfl rfl⟩
    · -- no: (getI (sec.take 1) : Int) < 1
      refine s_do rfl rfl rfl (d_move rfl rfl) ?_
      refine s_do rfl rfl rfl (d_gtr rfl rfl rfl) ?_
      refine s_do rfl rfl rfl (d_pick_f rfl rfl rfl) ?_
      refine s_do rfl rfl rfl (d_move rfl rfl) ?_
      refine s_part 45 rfl (fun h3 => ?_) (fun h3 => ?_)
      · -- yes: (5 : Int) < (getI (sec.take 1))
        refine s_skip rfl rfl rfl ?_
        refine s_skip rfl rfl rfl ?_
        refine s_skip rfl rfl rfl ?_
        refine s_do rfl rfl rfl (d_pick_t rfl rfl rfl) ?_
        refine s_end ?_
        refine k_true rfl ?_
        refine k_seq ?_
        refine s_region ?_
        refine s_do rfl rfl rfl (d_build rfl rfl (out := [.int .i64 0, .int .i64 0, .slice none 0 0]) (by kernel_rfl)) ?_
        refine s_do rfl rfl rfl (d_assign rfl rfl) ?_
        refine s_do rfl rfl rfl (d_assign rfl rfl) ?_
        refine s_put rfl rfl (n_store 2 H rfl rfl rfl rfl (vs := [.int .i64 0, .int .i64 0, .slice none 0 0]) rfl (by simp [u8, u32, Value.oneCell']) (by kernel_rfl) (by simp) (out := [.int .i64 0, .int .i64 0, .slice none 0 0]) rfl) ?_
        rintro w H'
        have H : Sep z (blk b2 [.slice (some ⟨b, (o + 12), none⟩) 240 (c - 12)] 129 :: A :: blk b1 [.int .i64 0, .int .i64 0, .slice none 0 0] 85 :: tblA pt :: R) w := H'
        clear H'
        refine s_do rfl rfl rfl (d_assign rfl rfl) ?_
        refine s_end ?_
        refine k_ret ?_
        refine doneL rfl [.int .i64 0, .int .i64 0, .agg #[.int .i64 0, .int .i64 0, .slice none 0 0], .bool false] ⟨rfl, ⟨rfl, ⟨⟨_, _, rfl, run_loadBlk (by kernel_rfl) (H.blk 2 rfl) (vs := [.int .i64 0, .int .i64 0, .slice none 0 0]) rfl⟩, ⟨rfl, trivial⟩⟩⟩⟩ (v := .tuple #[.int .i64 0, .int .i64 0, .agg #[.int .i64 0, .int .i64 0, .slice none 0 0], .bool false]) rfl ?_
        exact ⟨[tblA pt, A], .inr ⟨by rintro ⟨q1, q2, q3⟩; first | exact absurd (hd ▸ q1) ‹_› | (exfalso; omega), rfl, rfl⟩, H.perm 4 [3, 1] rfl rfl⟩
      · -- no: (5 : Int) < (getI (sec.take 1))
        refine s_do rfl rfl rfl (d_move rfl rfl) ?_
        refine s_callC rfl rfl rfl rfl rfl (fun w => Tryz.call47 _ w) (in_c _ _) H 0 [] rfl rfl ?_
        rintro _ w _ ⟨rfl, rfl⟩ H'
        have H : Sep z (blk b2 [.slice (some ⟨b, (o + 12), none⟩) 240 (c - 12)] 129 :: A :: blk b1 [.int .i64 0, .int .i64 0, .slice none 0 0] 85 :: tblA pt :: R) w := H'
        clear H'
        refine s_do rfl rfl rfl (d_not_dec rfl rfl) ?_
        refine s_do rfl rfl rfl (d_pick_f rfl rfl rfl) ?_
        refine s_end ?_
        refine k_dec rfl (fun h4 => ?_) (fun h4 => ?_)
        · -- yes: ¬ ((0 : Int) ≤ (getI ((sec.drop 1).take 2)) ∧ (getI ((sec.drop 1).take 2)) ≤ 1023)
          refine k_seq ?_
          refine s_region ?_
          refine s_do rfl rfl rfl (d_build rfl rfl (out := [.int .i64 0, .int .i64 0, .slice none 0 0]) (by kernel_rfl)) ?_
          refine s_do rfl rfl rfl (d_assign rfl rfl) ?_
          refine s_do rfl rfl rfl (d_assign rfl rfl) ?_
          refine s_put rfl rfl (n_store 2 H rfl rfl rfl rfl (vs := [.int .i64 0, .int .i64 0, .slice none 0 0]) rfl (by simp [u8, u32, Value.oneCell']) (by kernel_rfl) (by simp) (out := [.int .i64 0, .int .i64 0, .slice none 0 0]) rfl) ?_
          rintro w H'
          have H : Sep z (blk b2 [.slice (some ⟨b, (o + 12), none⟩) 240 (c - 12)] 129 :: A :: blk b1 [.int .i64 0, .int .i64 0, .slice none 0 0] 85 :: tblA pt :: R) w := H'
          clear H'
          refine s_do rfl rfl rfl (d_assign rfl rfl) ?_
          refine s_end ?_
          refine k_ret ?_
          refine doneL rfl [.int .i64 0, .int .i64 0, .agg #[.int .i64 0, .int .i64 0, .slice none 0 0], .bool false] ⟨rfl, ⟨rfl, ⟨⟨_, _, rfl, run_loadBlk (by kernel_rfl) (H.blk 2 rfl) (vs := [.int .i64 0, .int .i64 0, .slice none 0 0]) rfl⟩, ⟨rfl, trivial⟩⟩⟩⟩ (v := .tuple #[.int .i64 0, .int .i64 0, .agg #[.int .i64 0, .int .i64 0, .slice none 0 0], .bool false]) rfl ?_
          exact ⟨[tblA pt, A], .inr ⟨by rintro ⟨q1, q2, q3⟩; first | exact absurd (hd ▸ q1) ‹_› | (exfalso; omega), rfl, rfl⟩, H.perm 4 [3, 1] rfl rfl⟩
        · -- no: ¬ ((0 : Int) ≤ (getI ((sec.drop 1).take 2)) ∧ (getI ((sec.drop 1).take 2)) ≤ 1023)
          refine k_skip ?_
          refine k_seq ?_
          refine s_region ?_
          refine s_do rfl rfl rfl (d_move rfl rfl) ?_
          refine s_do rfl rfl rfl (d_move rfl rfl) ?_
          refine s_do rfl rfl rfl (d_move rfl rfl) ?_
          refine s_do rfl rfl rfl (d_move rfl rfl) ?_
          refine s_do rfl rfl rfl (d_field rfl (k := 0) (r := 0) (by kernel_rfl) rfl rfl) ?_
          refine s_do rfl rfl rfl (d_load rfl rfl (by kernel_rfl) (here (H.cel 0 rfl 0 rfl))) ?_
          refine s_callC rfl rfl rfl rfl rfl (fun w => Tryz.call39 _ w) (clone_c _ _ 240 _ ((sec.drop 12).take 240) _ ((fun h q => (hA h q).cut (lo := 12) (m := 240) (c' := (c - 12)) (by omega) (by omega) (by omega))) (by omega)) H 2 [1, 0] rfl rfl ?_
          rintro _ w _ ⟨g, cap, rest, rfl, ⟨cg, cc, cl⟩, rfl⟩ H'
          have H : Sep z (blk g (((sec.drop 12).take 240).map u8 ++ rest) 5 :: A :: blk b2 [.slice (some ⟨b, (o + 12), none⟩) 240 (c - 12)] 129 :: blk b1 [.int .i64 0, .int .i64 0, .slice none 0 0] 85 :: tblA pt :: R) w := H'
          clear H'
          refine s_do rfl rfl rfl (d_build rfl rfl (out := [.int .i64 (getI (sec.take 1)), .slice (some ⟨g, 0, none⟩) 240 cap]) (by kernel_rfl)) ?_
          refine s_do rfl rfl rfl (d_build rfl rfl (out := [.int .i64 (getI ((sec.drop 1).take 2)), .int .i64 (getI (sec.take 1)), .slice (some ⟨g, 0, none⟩) 240 cap]) (by kernel_rfl)) ?_
          refine s_do rfl rfl rfl (d_assign rfl rfl) ?_
          refine s_do rfl rfl rfl (d_assign rfl rfl) ?_
          refine s_put rfl rfl (n_store 3 H rfl rfl rfl rfl (vs := [.int .i64 (getI ((sec.drop 1).take 2)), .int .i64 (getI (sec.take 1)), .slice (some ⟨g, 0, none⟩) 240 cap]) rfl (by simp [u8, u32, Value.oneCell']) (by kernel_rfl) (by simp) (out := [.int .i64 (getI ((sec.drop 1).take 2)), .int .i64 (getI (sec.take 1)), .slice (some ⟨g, 0, none⟩) 240 cap]) rfl) ?_
          rintro w H'
          have H : Sep z (blk g (((sec.drop 12).take 240).map u8 ++ rest) 5 :: A :: blk b2 [.slice (some ⟨b, (o + 12), none⟩) 240 (c - 12)] 129 :: blk b1 [.int .i64 (getI ((sec.drop 1).take 2)), .int .i64 (getI (sec.take 1)), .slice (some ⟨g, 0, none⟩) 240 cap] 85 :: tblA pt :: R) w := H'
          clear H'
          refine s_do rfl rfl rfl (d_assign rfl rfl) ?_
          refine s_end ?_
          refine k_ret ?_
          refine doneL rfl [.int .i64 (getI ((sec.drop 3).take 4)), .int .i64 (getI ((sec.drop 7).take 5)), .agg #[.int .i64 (getI ((sec.drop 1).take 2)), .int .i64 (getI (sec.take 1)), .slice (some ⟨g, 0, none⟩) 240 cap], .bool true] ⟨rfl, ⟨rfl, ⟨⟨_, _, rfl, run_loadBlk (by kernel_rfl) (H.blk 3 rfl) (vs := [.int .i64 (getI ((sec.drop 1).take 2)), .int .i64 (getI (sec.take 1)), .slice (some ⟨g, 0, none⟩) 240 cap]) rfl⟩, ⟨rfl, trivial⟩⟩⟩⟩ (v := .tuple #[.int .i64 (getI ((sec.drop 3).take 4)), .int .i64 (getI ((sec.drop 7).take 5)), .agg #[.int .i64 (getI ((sec.drop 1).take 2)), .int .i64 (getI (sec.take 1)), .slice (some ⟨g, 0, none⟩) 240 cap], .bool true]) rfl ?_
          exact ⟨[blk g (((sec.drop 12).take 240).map u8 ++ rest) 5, tblA pt, A], .inl ⟨⟨by rw [hd]; exact Decidable.of_not_not ‹_›, by omega, by omega⟩, g, cap, rest, rfl, ⟨cg, cc, cl⟩, rfl⟩, H.perm 5 [0, 4, 1] rfl rfl⟩
end Go.Proofs.YtanejicgmgpjcaaGreatDoor
