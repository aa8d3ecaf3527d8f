/-
  Walks: a law's own test. No condition.
-/
import Derived.Test.YtanejicgmgpjcaaGreatDoorLogZA
import Derived.Test.YtanejicgmgpjcaaGreatDoorLogX
set_option maxRecDepth 100000
namespace Go.Proofs.YtanejicgmgpjcaaGreatDoor
open Go.RowKit
theorem opennd_c (pt : Nat) (s : Sup) : Cn Tryz.prog 19 [.pointer none, .pointer (some ⟨pt, 0, none⟩), .agg #[.int .i64 s.gen, .int .i64 s.epoch, .int .i64 s.pages, .int .i64 s.start, .int .i64 s.len, .int .i64 s.head, .int .i64 s.seq]] [] (fun v Γ => v = .tuple #[.pointer none, .slice none 0 0, .int .i64 1] ∧ Γ = []) := by
  intro z R w H'
  have H : Sep z (R) w := H'
  clear H'
  refine enter Tryz.func19 rfl 50 Tryz.ntmps19 rfl ?_
  refine k_seq ?_
  refine s_region ?_
  refine s_go rfl rfl rfl (n_box H rfl rfl (cs := [.int .i64 s.gen, .int .i64 s.epoch, .int .i64 s.pages, .int .i64 s.start, .int .i64 s.len, .int .i64 s.head, .int .i64 s.seq]) rfl) ?_
  rintro _ w ⟨b1, rfl, H'⟩
  have H : Sep z (blk b1 [.int .i64 s.gen, .int .i64 s.epoch, .int .i64 s.pages, .int .i64 s.start, .int .i64 s.len, .int .i64 s.head, .int .i64 s.seq] 33 :: R) w := H'
  clear H'
  refine s_do rfl rfl rfl (d_assign rfl rfl) ?_
  refine s_do rfl rfl rfl (d_assign rfl rfl) ?_
  refine s_do rfl rfl rfl (d_assign rfl rfl) ?_
  refine s_end ?_
  refine k_seq ?_
  refine s_region ?_
  refine s_do rfl rfl rfl (d_move rfl rfl) ?_
  refine s_do rfl rfl rfl (d_move rfl rfl) ?_
  refine s_do rfl rfl rfl (d_loadAgg rfl rfl (vs := [.int .i64 s.gen, .int .i64 s.epoch, .int .i64 s.pages, .int .i64 s.start, .int .i64 s.len, .int .i64 s.head, .int .i64 s.seq]) (by kernel_rfl) (here ((H.blk 0 rfl).part 0 7 _ rfl))) ?_
  refine s_callC rfl rfl rfl rfl rfl (fun w => Tryz.call8 _ w) (lnew_nd _ s) H 0 [] rfl rfl ?_
  rintro _ w _ ⟨rfl, rfl⟩ H'
  have H : Sep z (blk b1 [.int .i64 s.gen, .int .i64 s.epoch, .int .i64 s.pages, .int .i64 s.start, .int .i64 s.len, .int .i64 s.head, .int .i64 s.seq] 33 :: R) w := H'
  clear H'
  refine s_do rfl rfl rfl (d_assign rfl rfl) ?_
  refine s_end ?_
  refine k_seq ?_
  refine k_seq ?_
  refine s_region ?_
  refine s_do rfl rfl rfl (d_move rfl rfl) ?_
  refine s_do rfl rfl rfl (d_eql_nn rfl (by kernel_rfl) rfl rfl) ?_
  refine s_end ?_
  refine k_true rfl ?_
  refine k_seq ?_
  refine s_region ?_
  refine s_do rfl rfl rfl (d_assign rfl rfl) ?_
  refine s_do rfl rfl rfl (d_assign rfl rfl) ?_
  refine s_do rfl rfl rfl (d_assign rfl rfl) ?_
  refine s_end ?_
  refine k_ret ?_
  refine doneL rfl [.pointer none, .slice none 0 0, .int .i64 1] ⟨rfl, ⟨rfl, ⟨rfl, trivial⟩⟩⟩ (v := .tuple #[.pointer none, .slice none 0 0, .int .i64 1]) rfl ?_
  exact ⟨[], ⟨rfl, rfl⟩, H.perm 1 [] rfl rfl⟩

set_option maxHeartbeats 1000000 in
theorem known_c (pt : Nat) : Cn Tryz.prog 7 [.pointer (some ⟨pt, 0, none⟩)] [tblA pt] (fun v Γ => v = .bool true ∧ Γ = [tblA pt]) := by
  intro z R w H'
  have H : Sep z (tblA pt :: R) w := H'
  clear H'
  have hs5 := s5_f
  have hok : s5.Ok ((newD 100).n : Int) := Sup.ok_of (by omega) rfl rfl rfl rfl (by omega) (by omega) rfl
  have hil : (opImgs [1, 2] 4 7).length = 2 := opImgs_len _ _ _
  have hrc : recOK (opImgs [1, 2] 4 7) := recOK_ops (by simp) (by simp) (by decide)
  refine enter Tryz.func7 rfl 104 Tryz.ntmps7 rfl ?_
  refine k_seq ?_
  refine s_region ?_
  refine s_do rfl rfl rfl (d_assign rfl rfl) ?_
  refine s_end ?_
  refine k_seq ?_
  refine s_region ?_
  refine s_callC rfl rfl rfl rfl rfl (fun w => Tryz.call6 _ w) (dnew_c 100) H 0 [] rfl rfl ?_
  rintro _ w _ (⟨hn, rfl, rfl⟩ | ⟨_, pd, rfl, rfl⟩) H'
  · exact absurd (by omega) hn
  · -- a case
    have H : Sep z (diskA pd (newD 100) :: tblA pt :: R) w := H'
    clear H'
    refine s_do rfl rfl rfl (d_move rfl rfl) ?_
    refine s_do rfl rfl rfl (d_extract rfl rfl rfl) ?_
    refine s_do rfl rfl rfl (d_extract rfl rfl rfl) ?_
    refine s_do rfl rfl rfl (d_assign rfl rfl) ?_
    refine s_do rfl rfl rfl (d_assign rfl rfl) ?_
    refine s_end ?_
    refine k_seq ?_
    refine s_region ?_
    refine s_do rfl rfl rfl (d_build rfl rfl (out := [.int .i64 1, .int .i64 1, .int .i64 16, .int .i64 18, .int .i64 64, .int .i64 0, .int .i64 5]) (by kernel_rfl)) ?_
    refine s_go rfl rfl rfl (n_alloc (P := Tryz.prog) H rfl (zs := [.int .i64 0, .int .i64 0, .int .i64 0, .int .i64 0, .int .i64 0, .int .i64 0, .int .i64 0]) (by kernel_rfl)) ?_
    rintro _ w ⟨b1, rfl, H'⟩
    have H : Sep z (blk b1 [.int .i64 0, .int .i64 0, .int .i64 0, .int .i64 0, .int .i64 0, .int .i64 0, .int .i64 0] 33 :: diskA pd (newD 100) :: tblA pt :: R) w := H'
    clear H'
    refine s_put rfl rfl (n_store 0 H rfl rfl rfl rfl (vs := [.int .i64 1, .int .i64 1, .int .i64 16, .int .i64 18, .int .i64 64, .int .i64 0, .int .i64 5]) rfl (by simp [u8, u32, Value.oneCell']) (by kernel_rfl) (by simp) (out := [.int .i64 1, .int .i64 1, .int .i64 16, .int .i64 18, .int .i64 64, .int .i64 0, .int .i64 5]) rfl) ?_
    rintro w H'
    have H : Sep z (blk b1 [.int .i64 1, .int .i64 1, .int .i64 16, .int .i64 18, .int .i64 64, .int .i64 0, .int .i64 5] 33 :: diskA pd (newD 100) :: tblA pt :: R) w := H'
    clear H'
    refine s_end ?_
    refine k_seq ?_
    refine k_seq ?_
    refine s_region ?_
    refine s_do rfl rfl rfl (d_move rfl rfl) ?_
    refine s_do rfl rfl rfl (d_neq rfl rfl rfl) ?_
    refine k_updA 21 (u := .bool (decide ((0 : Int) ≠ 0))) (v := .bool false) rfl (congrArg Value.bool (by decide)) ?_
    refine s_do rfl rfl rfl (d_move rfl rfl) ?_
    refine s_do rfl rfl rfl (d_move rfl rfl) ?_
    refine s_do rfl rfl rfl (d_eql_pn rfl (by kernel_rfl) rfl rfl) ?_
    refine s_do rfl rfl rfl (d_pick_f rfl rfl rfl) ?_
    refine s_do rfl rfl rfl (d_move rfl rfl) ?_
    refine s_do rfl rfl rfl (d_move rfl rfl) ?_
    refine s_do rfl rfl rfl (d_eql_pn rfl (by kernel_rfl) rfl rfl) ?_
    refine s_do rfl rfl rfl (d_pick_f rfl rfl rfl) ?_
    refine s_do rfl rfl rfl (d_move rfl rfl) ?_
    refine s_do rfl rfl rfl (d_move rfl rfl) ?_
    refine s_do rfl rfl rfl (d_loadAgg rfl rfl (vs := [.int .i64 1, .int .i64 1, .int .i64 16, .int .i64 18, .int .i64 64, .int .i64 0, .int .i64 5]) (by kernel_rfl) (here ((H.blk 0 rfl).part 0 7 _ rfl))) ?_
    refine s_callC rfl rfl rfl rfl rfl (fun w => Tryz.call8 _ w) (lnew_nd _ s5) H 0 [] rfl rfl ?_
    rintro _ w _ ⟨rfl, rfl⟩ H'
    have H : Sep z (blk b1 [.int .i64 1, .int .i64 1, .int .i64 16, .int .i64 18, .int .i64 64, .int .i64 0, .int .i64 5] 33 :: diskA pd (newD 100) :: tblA pt :: R) w := H'
    clear H'
    refine s_do rfl rfl rfl (d_neq_nn rfl (by kernel_rfl) rfl rfl) ?_
    refine s_do rfl rfl rfl (d_pick_f rfl rfl rfl) ?_
    refine s_do rfl rfl rfl (d_move rfl rfl) ?_
    refine s_do rfl rfl rfl (d_move rfl rfl) ?_
    refine s_do rfl rfl rfl (d_loadAgg rfl rfl (vs := [.int .i64 1, .int .i64 1, .int .i64 16, .int .i64 18, .int .i64 64, .int .i64 0, .int .i64 5]) (by kernel_rfl) (here ((H.blk 0 rfl).part 0 7 _ rfl))) ?_
    refine s_callC rfl rfl rfl rfl rfl (fun w => Tryz.call8 _ w) (lnew_nt _ s5) H 0 [] rfl rfl ?_
    rintro _ w _ ⟨rfl, rfl⟩ H'
    have H : Sep z (blk b1 [.int .i64 1, .int .i64 1, .int .i64 16, .int .i64 18, .int .i64 64, .int .i64 0, .int .i64 5] 33 :: diskA pd (newD 100) :: tblA pt :: R) w := H'
    clear H'
    refine s_do rfl rfl rfl (d_neq_nn rfl (by kernel_rfl) rfl rfl) ?_
    refine s_do rfl rfl rfl (d_pick_f rfl rfl rfl) ?_
    refine s_end ?_
    refine k_false rfl ?_
    refine k_skip ?_
    refine k_seq ?_
    refine s_region ?_
    refine s_do rfl rfl rfl (d_move rfl rfl) ?_
    refine s_do rfl rfl rfl (d_move rfl rfl) ?_
    refine s_do rfl rfl rfl (d_loadAgg rfl rfl (vs := [.int .i64 1, .int .i64 1, .int .i64 16, .int .i64 18, .int .i64 64, .int .i64 0, .int .i64 5]) (by kernel_rfl) (here ((H.blk 0 rfl).part 0 7 _ rfl))) ?_
    refine s_callC rfl rfl rfl rfl rfl (fun w => Tryz.call8 _ w) (lnewD_c _ _ _ s5 hok) H 2 [1, 0] rfl rfl ?_
    rintro _ w _ ⟨pl, rfl, rfl⟩ H'
    have H : Sep z (blk pl [.pointer (some ⟨pd, 0, none⟩), .pointer (some ⟨pt, 0, none⟩), .int .i64 s5.gen, .int .i64 s5.epoch, .int .i64 s5.pages, .int .i64 s5.start, .int .i64 s5.len, .int .i64 s5.head, .int .i64 s5.seq, .int .i64 s5.head, .int .i64 s5.seq, .int .i64 0, .bool false, .bool (decide (s5.epoch < 4294967296))] 77 :: diskA pd (newD 100) :: blk b1 [.int .i64 1, .int .i64 1, .int .i64 16, .int .i64 18, .int .i64 64, .int .i64 0, .int .i64 5] 33 :: tblA pt :: R) w := H'
    clear H'
    refine s_do rfl rfl rfl (d_assign rfl rfl) ?_
    refine s_end ?_
    refine k_seq ?_
    refine k_seq ?_
    refine s_region ?_
    refine s_do rfl rfl rfl (d_move rfl rfl) ?_
    refine s_do rfl rfl rfl (d_eql_pn rfl (by kernel_rfl) rfl rfl) ?_
    refine s_end ?_
    refine k_false rfl ?_
    refine k_skip ?_
    refine k_seq ?_
    refine s_region ?_
    refine s_go rfl rfl rfl (n_buildSlice H rfl (by kernel_rfl) (Elt.mk (P := Tryz.prog) (e := 3) (z := .int .i64 0) (sz := 1) (by_ := 8) (by kernel_rfl) rfl (by omega) (by omega)) rfl (by decide) (by decide) (out := [.int .i64 1, .int .i64 2]) (by kernel_rfl)) ?_
    rintro _ w ⟨b2, rfl, H'⟩
    have H : Sep z (blk b2 [.int .i64 1, .int .i64 2] 3 :: blk pl [.pointer (some ⟨pd, 0, none⟩), .pointer (some ⟨pt, 0, none⟩), .int .i64 s5.gen, .int .i64 s5.epoch, .int .i64 s5.pages, .int .i64 s5.start, .int .i64 s5.len, .int .i64 s5.head, .int .i64 s5.seq, .int .i64 s5.head, .int .i64 s5.seq, .int .i64 0, .bool false, .bool (decide (s5.epoch < 4294967296))] 77 :: diskA pd (newD 100) :: blk b1 [.int .i64 1, .int .i64 1, .int .i64 16, .int .i64 18, .int .i64 64, .int .i64 0, .int .i64 5] 33 :: tblA pt :: R) w := H'
    clear H'
    refine s_do rfl rfl rfl (d_build rfl rfl (out := [.int .i64 0, .slice (some ⟨b2, 0, none⟩) 2 2, .int .i64 4, .int .i64 7, .int .i64 0, .int .i64 0, .slice none 0 0]) (by kernel_rfl)) ?_
    refine s_go rfl rfl rfl (n_alloc (P := Tryz.prog) H rfl (zs := [.int .i64 0, .slice none 0 0, .int .i64 0, .int .i64 0, .int .i64 0, .int .i64 0, .slice none 0 0]) (by kernel_rfl)) ?_
    rintro _ w ⟨b3, rfl, H'⟩
    have H : Sep z (blk b3 [.int .i64 0, .slice none 0 0, .int .i64 0, .int .i64 0, .int .i64 0, .int .i64 0, .slice none 0 0] 36 :: blk b2 [.int .i64 1, .int .i64 2] 3 :: blk pl [.pointer (some ⟨pd, 0, none⟩), .pointer (some ⟨pt, 0, none⟩), .int .i64 s5.gen, .int .i64 s5.epoch, .int .i64 s5.pages, .int .i64 s5.start, .int .i64 s5.len, .int .i64 s5.head, .int .i64 s5.seq, .int .i64 s5.head, .int .i64 s5.seq, .int .i64 0, .bool false, .bool (decide (s5.epoch < 4294967296))] 77 :: diskA pd (newD 100) :: blk b1 [.int .i64 1, .int .i64 1, .int .i64 16, .int .i64 18, .int .i64 64, .int .i64 0, .int .i64 5] 33 :: tblA pt :: R) w := H'
    clear H'
    refine s_put rfl rfl (n_store 0 H rfl rfl rfl rfl (vs := [.int .i64 0, .slice (some ⟨b2, 0, none⟩) 2 2, .int .i64 4, .int .i64 7, .int .i64 0, .int .i64 0, .slice none 0 0]) rfl (by simp [u8, u32, Value.oneCell']) (by kernel_rfl) (by simp) (out := [.int .i64 0, .slice (some ⟨b2, 0, none⟩) 2 2, .int .i64 4, .int .i64 7, .int .i64 0, .int .i64 0, .slice none 0 0]) rfl) ?_
    rintro w H'
    have H : Sep z (blk b3 [.int .i64 0, .slice (some ⟨b2, 0, none⟩) 2 2, .int .i64 4, .int .i64 7, .int .i64 0, .int .i64 0, .slice none 0 0] 36 :: blk b2 [.int .i64 1, .int .i64 2] 3 :: blk pl [.pointer (some ⟨pd, 0, none⟩), .pointer (some ⟨pt, 0, none⟩), .int .i64 s5.gen, .int .i64 s5.epoch, .int .i64 s5.pages, .int .i64 s5.start, .int .i64 s5.len, .int .i64 s5.head, .int .i64 s5.seq, .int .i64 s5.head, .int .i64 s5.seq, .int .i64 0, .bool false, .bool (decide (s5.epoch < 4294967296))] 77 :: diskA pd (newD 100) :: blk b1 [.int .i64 1, .int .i64 1, .int .i64 16, .int .i64 18, .int .i64 64, .int .i64 0, .int .i64 5] 33 :: tblA pt :: R) w := H'
    clear H'
    refine s_end ?_
    refine k_seq ?_
    refine s_region ?_
    refine s_do rfl rfl rfl (d_move rfl rfl) ?_
    refine s_do rfl rfl rfl (d_loadAgg rfl rfl (vs := [.int .i64 0, .slice (some ⟨b2, 0, none⟩) 2 2, .int .i64 4, .int .i64 7, .int .i64 0, .int .i64 0, .slice none 0 0]) (by kernel_rfl) (here ((H.blk 0 rfl).part 0 7 _ rfl))) ?_
    refine s_callC rfl rfl rfl rfl rfl (fun w => Tryz.call10 _ w) (images_c _ _ _ _ _ _ _ ([1, 2]) _ (fun h q => q.rd (by omega) (by omega) (by simp) rfl) rfl (by decide)) H 2 [1, 0] rfl rfl ?_
    rintro v1 w _ ⟨hqi1, him1, rfl⟩ H'
    have H : Sep z (poolA hqi1 :: blk b2 [.int .i64 1, .int .i64 2] 3 :: blk b3 [.int .i64 0, .slice (some ⟨b2, 0, none⟩) 2 2, .int .i64 4, .int .i64 7, .int .i64 0, .int .i64 0, .slice none 0 0] 36 :: blk pl [.pointer (some ⟨pd, 0, none⟩), .pointer (some ⟨pt, 0, none⟩), .int .i64 s5.gen, .int .i64 s5.epoch, .int .i64 s5.pages, .int .i64 s5.start, .int .i64 s5.len, .int .i64 s5.head, .int .i64 s5.seq, .int .i64 s5.head, .int .i64 s5.seq, .int .i64 0, .bool false, .bool (decide (s5.epoch < 4294967296))] 77 :: diskA pd (newD 100) :: blk b1 [.int .i64 1, .int .i64 1, .int .i64 16, .int .i64 18, .int .i64 64, .int .i64 0, .int .i64 5] 33 :: tblA pt :: R) w := H'
    clear H'
    have sv1 : Slc v1 (opImgs ([1, 2]) 4 7).length := by obtain ⟨ao, c, e⟩ := him1.slc; exact ⟨ao, c, e⟩
    refine s_callC rfl rfl rfl rfl rfl (fun w => Tryz.call9 _ w) (appendS_c _ _ _ _ _ _ _ _ _ _ (opImgs [1, 2] 4 7) _ (fun h q => him1.le q) _ 0 (newD_cln 100) (by omega) hok rfl (by omega) (by omega) (by omega)) H 7 [3, 6, 4, 0, 1, 2, 5] rfl rfl ?_
    rintro _ w _ (⟨c, hcode, rfl, rfl⟩ | ⟨hl, hrec, hroom, k, hk, rfl, rfl⟩) H'
    · exact absurd hcode (not_code (ims := opImgs [1, 2] 4 7) (by omega) hrc ⟨by simp; omega, rfl, by omega⟩)
    · -- a case
      have H : Sep z (blk pl [.pointer (some ⟨pd, 0, none⟩), .pointer (some ⟨pt, 0, none⟩), .int .i64 s5.gen, .int .i64 s5.epoch, .int .i64 s5.pages, .int .i64 s5.start, .int .i64 s5.len, .int .i64 s5.head, .int .i64 s5.seq, .int .i64 ((s5.head + (1 + ((opImgs [1, 2] 4 7).length : Int))) % s5.len), .int .i64 (s5.seq + 1), .int .i64 (0 + (1 + ((opImgs [1, 2] 4 7).length : Int))), .bool false, .bool (decide (s5.epoch < 4294967296))] 77 :: tblA pt :: diskA pd (appD (newD 100) s5 s5.head k (recB s5.epoch s5.seq (opImgs [1, 2] 4 7))) :: poolA hqi1 :: blk b2 [.int .i64 1, .int .i64 2] 3 :: blk b3 [.int .i64 0, .slice (some ⟨b2, 0, none⟩) 2 2, .int .i64 4, .int .i64 7, .int .i64 0, .int .i64 0, .slice none 0 0] 36 :: blk b1 [.int .i64 1, .int .i64 1, .int .i64 16, .int .i64 18, .int .i64 64, .int .i64 0, .int .i64 5] 33 :: R) w := H'
      clear H'
      have hinv := LogInv.app (ims := opImgs [1, 2] 4 7) (k := k) (by omega) (by omega) (LogInv.new (n := 100) (s := s5)) hl hrec.1 (by omega) (by omega) (by omega) hk
      refine s_do rfl rfl rfl (d_assign rfl rfl) ?_
      refine s_end ?_
      refine k_seq ?_
      refine s_region ?_
      refine s_do rfl rfl rfl (d_move rfl rfl) ?_
      refine s_do rfl rfl rfl (d_move rfl rfl) ?_
      refine s_do rfl rfl rfl (d_loadAgg rfl rfl (vs := [.int .i64 1, .int .i64 1, .int .i64 16, .int .i64 18, .int .i64 64, .int .i64 0, .int .i64 5]) (by kernel_rfl) (here ((H.blk 6 rfl).part 0 7 _ rfl))) ?_
      refine s_callC rfl rfl rfl rfl rfl (fun w => Tryz.call19 _ w) (open_c _ _ s5 _ (by rw [app_n]; exact hok) ((newD_cln 100).app _ _ _ _).f1) H 3 [1, 2, 0] rfl rfl ?_
      rintro _ w _ ⟨pl2, rs2, a2, q2, u2, v2, hq2, rfl, hruns2, hstop2, hrecs2, rfl⟩ H'
      have H : Sep z (poolA hq2 :: blk pl2 [.pointer (some ⟨pd, 0, none⟩), .pointer (some ⟨pt, 0, none⟩), .int .i64 s5.gen, .int .i64 s5.epoch, .int .i64 s5.pages, .int .i64 s5.start, .int .i64 s5.len, .int .i64 s5.head, .int .i64 s5.seq, .int .i64 a2, .int .i64 q2, .int .i64 u2, .bool false, .bool (decide (s5.epoch < 4294967296))] 77 :: tblA pt :: diskA pd (appD (newD 100) s5 s5.head k (recB s5.epoch s5.seq (opImgs [1, 2] 4 7))) :: blk pl [.pointer (some ⟨pd, 0, none⟩), .pointer (some ⟨pt, 0, none⟩), .int .i64 s5.gen, .int .i64 s5.epoch, .int .i64 s5.pages, .int .i64 s5.start, .int .i64 s5.len, .int .i64 s5.head, .int .i64 s5.seq, .int .i64 ((s5.head + (1 + ((opImgs [1, 2] 4 7).length : Int))) % s5.len), .int .i64 (s5.seq + 1), .int .i64 (0 + (1 + ((opImgs [1, 2] 4 7).length : Int))), .bool false, .bool (decide (s5.epoch < 4294967296))] 77 :: poolA hqi1 :: blk b2 [.int .i64 1, .int .i64 2] 3 :: blk b3 [.int .i64 0, .slice (some ⟨b2, 0, none⟩) 2 2, .int .i64 4, .int .i64 7, .int .i64 0, .int .i64 0, .slice none 0 0] 36 :: blk b1 [.int .i64 1, .int .i64 1, .int .i64 16, .int .i64 18, .int .i64 64, .int .i64 0, .int .i64 5] 33 :: R) w := H'
      clear H'
      obtain ⟨rfl, rfl, rfl, rfl⟩ := hinv.runs.only hruns2 (hinv.stop (by omega)) hstop2
      obtain ⟨ao2, c2, rfl⟩ := hrecs2.slc
      obtain ⟨es2, hes2, hrd2, hok2⟩ := hrecs2
      obtain ⟨w2, rfl⟩ := one_es hes2
      have him2 := hok2 _ (List.mem_singleton.2 rfl)
      obtain ⟨ao3, c3, hw2⟩ := him2.slc
      dsimp only at hw2
      subst hw2
      have H : Sep z (poolA hq2 :: blk pl2 [.pointer (some ⟨pd, 0, none⟩), .pointer (some ⟨pt, 0, none⟩), .int .i64 s5.gen, .int .i64 s5.epoch, .int .i64 s5.pages, .int .i64 s5.start, .int .i64 s5.len, .int .i64 s5.head, .int .i64 s5.seq, .int .i64 ((s5.head + (1 + ((opImgs [1, 2] 4 7).length : Int))) % s5.len), .int .i64 (s5.seq + 1), .int .i64 (0 + (1 + ((opImgs [1, 2] 4 7).length : Int))), .bool false, .bool (decide (s5.epoch < 4294967296))] 77 :: tblA pt :: diskA pd (appD (newD 100) s5 s5.head k (recB s5.epoch s5.seq (opImgs [1, 2] 4 7))) :: blk pl [.pointer (some ⟨pd, 0, none⟩), .pointer (some ⟨pt, 0, none⟩), .int .i64 s5.gen, .int .i64 s5.epoch, .int .i64 s5.pages, .int .i64 s5.start, .int .i64 s5.len, .int .i64 s5.head, .int .i64 s5.seq, .int .i64 ((s5.head + (1 + ((opImgs [1, 2] 4 7).length : Int))) % s5.len), .int .i64 (s5.seq + 1), .int .i64 (0 + (1 + ((opImgs [1, 2] 4 7).length : Int))), .bool false, .bool (decide (s5.epoch < 4294967296))] 77 :: poolA hqi1 :: blk b2 [.int .i64 1, .int .i64 2] 3 :: blk b3 [.int .i64 0, .slice (some ⟨b2, 0, none⟩) 2 2, .int .i64 4, .int .i64 7, .int .i64 0, .int .i64 0, .slice none 0 0] 36 :: blk b1 [.int .i64 1, .int .i64 1, .int .i64 16, .int .i64 18, .int .i64 64, .int .i64 0, .int .i64 5] 33 :: R) w := H
      have hat2 := (H.rd 0 rfl (fun h q => hrd2.le q)).at (rcC_get (es := [(⟨s5.seq, opImgs [1, 2] 4 7⟩, .slice ao3 2 c3)]) (j := 0) rfl 0 _ rfl)
      refine s_do rfl rfl rfl (d_move rfl rfl) ?_
      refine s_do rfl rfl rfl (d_extract rfl rfl rfl) ?_
      refine s_do rfl rfl rfl (d_extract rfl rfl rfl) ?_
      refine s_do rfl rfl rfl (d_extract rfl rfl rfl) ?_
      refine s_do rfl rfl rfl (d_assign rfl rfl) ?_
      refine s_do rfl rfl rfl (d_assign rfl rfl) ?_
      refine s_do rfl rfl rfl (d_assign rfl rfl) ?_
      refine s_end ?_
      refine k_seq ?_
      refine s_region ?_
      refine s_do rfl rfl rfl (d_move rfl rfl) ?_
      refine s_do rfl rfl rfl (d_loadAgg rfl rfl (vs := [.int .i64 1, .int .i64 1, .int .i64 16, .int .i64 18, .int .i64 64, .int .i64 0, .int .i64 5]) (by kernel_rfl) (here ((H.blk 8 rfl).part 0 7 _ rfl))) ?_
      refine s_callC rfl rfl rfl rfl rfl (fun w => Tryz.call19 _ w) (opennd_c _ s5) H 0 [] rfl rfl ?_
      rintro _ w _ ⟨rfl, rfl⟩ H'
      have H : Sep z (poolA hq2 :: blk pl2 [.pointer (some ⟨pd, 0, none⟩), .pointer (some ⟨pt, 0, none⟩), .int .i64 s5.gen, .int .i64 s5.epoch, .int .i64 s5.pages, .int .i64 s5.start, .int .i64 s5.len, .int .i64 s5.head, .int .i64 s5.seq, .int .i64 ((s5.head + (1 + ((opImgs [1, 2] 4 7).length : Int))) % s5.len), .int .i64 (s5.seq + 1), .int .i64 (0 + (1 + ((opImgs [1, 2] 4 7).length : Int))), .bool false, .bool (decide (s5.epoch < 4294967296))] 77 :: tblA pt :: diskA pd (appD (newD 100) s5 s5.head k (recB s5.epoch s5.seq (opImgs [1, 2] 4 7))) :: blk pl [.pointer (some ⟨pd, 0, none⟩), .pointer (some ⟨pt, 0, none⟩), .int .i64 s5.gen, .int .i64 s5.epoch, .int .i64 s5.pages, .int .i64 s5.start, .int .i64 s5.len, .int .i64 s5.head, .int .i64 s5.seq, .int .i64 ((s5.head + (1 + ((opImgs [1, 2] 4 7).length : Int))) % s5.len), .int .i64 (s5.seq + 1), .int .i64 (0 + (1 + ((opImgs [1, 2] 4 7).length : Int))), .bool false, .bool (decide (s5.epoch < 4294967296))] 77 :: poolA hqi1 :: blk b2 [.int .i64 1, .int .i64 2] 3 :: blk b3 [.int .i64 0, .slice (some ⟨b2, 0, none⟩) 2 2, .int .i64 4, .int .i64 7, .int .i64 0, .int .i64 0, .slice none 0 0] 36 :: blk b1 [.int .i64 1, .int .i64 1, .int .i64 16, .int .i64 18, .int .i64 64, .int .i64 0, .int .i64 5] 33 :: R) w := H'
      clear H'
      refine s_do rfl rfl rfl (d_move rfl rfl) ?_
      refine s_do rfl rfl rfl (d_extract rfl rfl rfl) ?_
      refine s_do rfl rfl rfl (d_extract rfl rfl rfl) ?_
      refine s_do rfl rfl rfl (d_extract rfl rfl rfl) ?_
      refine s_do rfl rfl rfl (d_assign rfl rfl) ?_
      refine s_do rfl rfl rfl (d_assign rfl rfl) ?_
      refine s_do rfl rfl rfl (d_assign rfl rfl) ?_
      refine s_end ?_
      refine k_seq ?_
      refine s_region ?_
      refine s_do rfl rfl rfl (d_move rfl rfl) ?_
      refine s_do rfl rfl rfl (d_eql rfl rfl rfl) ?_
      refine k_updA 70 (u := .bool (decide ((0 : Int) = 0))) (v := .bool true) rfl (congrArg Value.bool (by decide)) ?_
      refine s_do rfl rfl rfl (d_move rfl rfl) ?_
      refine s_do rfl rfl rfl (d_move rfl rfl) ?_
      refine s_do rfl rfl rfl (d_eql rfl rfl rfl) ?_
      refine k_updA 73 (u := .bool (decide ((0 : Int) = 0))) (v := .bool true) rfl (congrArg Value.bool (by decide)) ?_
      refine s_do rfl rfl rfl (d_pick_t rfl rfl rfl) ?_
      refine s_do rfl rfl rfl (d_move rfl rfl) ?_
      refine s_do rfl rfl rfl (d_move rfl rfl) ?_
      refine s_do rfl rfl rfl (d_eql rfl rfl rfl) ?_
      refine k_updA 77 (u := .bool (decide ((1 : Int) = 1))) (v := .bool true) rfl (congrArg Value.bool (by decide)) ?_
      refine s_do rfl rfl rfl (d_pick_t rfl rfl rfl) ?_
      refine s_do rfl rfl rfl (d_move rfl rfl) ?_
      refine s_do rfl rfl rfl (d_move rfl rfl) ?_
      refine s_do rfl rfl rfl (d_len rfl (z := 2) (by kernel_rfl) rfl) ?_
      refine s_do rfl rfl rfl (d_eql rfl rfl rfl) ?_
      refine k_updA 82 (u := .bool (decide ((1 : Int) = 1))) (v := .bool true) rfl (congrArg Value.bool (by decide)) ?_
      refine s_do rfl rfl rfl (d_pick_t rfl rfl rfl) ?_
      refine s_do rfl rfl rfl (d_move rfl rfl) ?_
      refine s_do rfl rfl rfl (d_move rfl rfl) ?_
      refine s_do rfl rfl rfl (d_indexE rfl (z := 2) (j := 0) (r := 0) (by kernel_rfl) rfl rfl rfl (by simp) hat2 (by omega)) ?_
      refine s_do rfl rfl rfl (d_fieldE rfl (k := 0) (r := 0) (by kernel_rfl) rfl hat2 rfl) ?_
      refine s_do rfl rfl rfl (d_loadE rfl rfl (by kernel_rfl) (here ((H.rd 0 rfl (fun h q => hrd2.le q)).at (rcC_get (es := [(⟨s5.seq, opImgs [1, 2] 4 7⟩, .slice ao3 2 c3)]) (j := 0) rfl 0 _ rfl)))) ?_
      refine s_do rfl rfl rfl (d_eql rfl rfl rfl) ?_
      refine s_do rfl rfl rfl (d_pick_t rfl rfl rfl) ?_
      refine s_do rfl rfl rfl (d_move rfl rfl) ?_
      refine s_part 91 rfl (fun h1 => ?_) (fun h1 => ?_)
      · -- yes: (s5.seq : Int) = 5
        refine s_do rfl rfl rfl (d_move rfl rfl) ?_
        refine s_do rfl rfl rfl (d_indexE rfl (z := 2) (j := 0) (r := 0) (by kernel_rfl) rfl rfl rfl (by simp) hat2 (by omega)) ?_
        refine s_do rfl rfl rfl (d_fieldE rfl (k := 1) (r := 1) (by kernel_rfl) rfl hat2 rfl) ?_
        refine s_do rfl rfl rfl (d_loadE rfl rfl (by kernel_rfl) (here ((H.rd 0 rfl (fun h q => hrd2.le q)).at (rcC_get (es := [(⟨s5.seq, opImgs [1, 2] 4 7⟩, .slice ao3 2 c3)]) (j := 0) rfl 1 _ rfl)))) ?_
        refine s_do rfl rfl rfl (d_len rfl (z := 3) (by kernel_rfl) rfl) ?_
        refine s_do rfl rfl rfl (d_eql rfl rfl rfl) ?_
        refine k_updA 97 (u := .bool (decide ((2 : Int) = 2))) (v := .bool true) rfl (congrArg Value.bool (by decide)) ?_
        refine s_do rfl rfl rfl (d_pick_t rfl rfl rfl) ?_
        refine s_do rfl rfl rfl (d_move rfl rfl) ?_
        refine s_do rfl rfl rfl (d_move rfl rfl) ?_
        refine s_callC rfl rfl rfl rfl rfl (fun w => Tryz.call14 _ w) (room_c _ _ _ _ _ _ _ _ _ (by omega)) H 5 [4, 0, 1, 2, 3] rfl rfl ?_
        rintro _ w _ ⟨rfl, rfl⟩ H'
        have H : Sep z (blk pl [.pointer (some ⟨pd, 0, none⟩), .pointer (some ⟨pt, 0, none⟩), .int .i64 s5.gen, .int .i64 s5.epoch, .int .i64 s5.pages, .int .i64 s5.start, .int .i64 s5.len, .int .i64 s5.head, .int .i64 s5.seq, .int .i64 ((s5.head + (1 + ((opImgs [1, 2] 4 7).length : Int))) % s5.len), .int .i64 (s5.seq + 1), .int .i64 (0 + (1 + ((opImgs [1, 2] 4 7).length : Int))), .bool false, .bool (decide (s5.epoch < 4294967296))] 77 :: poolA hq2 :: blk pl2 [.pointer (some ⟨pd, 0, none⟩), .pointer (some ⟨pt, 0, none⟩), .int .i64 s5.gen, .int .i64 s5.epoch, .int .i64 s5.pages, .int .i64 s5.start, .int .i64 s5.len, .int .i64 s5.head, .int .i64 s5.seq, .int .i64 ((s5.head + (1 + ((opImgs [1, 2] 4 7).length : Int))) % s5.len), .int .i64 (s5.seq + 1), .int .i64 (0 + (1 + ((opImgs [1, 2] 4 7).length : Int))), .bool false, .bool (decide (s5.epoch < 4294967296))] 77 :: tblA pt :: diskA pd (appD (newD 100) s5 s5.head k (recB s5.epoch s5.seq (opImgs [1, 2] 4 7))) :: poolA hqi1 :: blk b2 [.int .i64 1, .int .i64 2] 3 :: blk b3 [.int .i64 0, .slice (some ⟨b2, 0, none⟩) 2 2, .int .i64 4, .int .i64 7, .int .i64 0, .int .i64 0, .slice none 0 0] 36 :: blk b1 [.int .i64 1, .int .i64 1, .int .i64 16, .int .i64 18, .int .i64 64, .int .i64 0, .int .i64 5] 33 :: R) w := H'
        clear H'
        refine s_do rfl rfl rfl (d_eql rfl rfl rfl) ?_
        refine s_do rfl rfl rfl (d_pick_t rfl rfl rfl) ?_
        refine s_do rfl rfl rfl (d_assign rfl rfl) ?_
        refine s_end ?_
        refine k_ret ?_
        refine doneL rfl [.bool (decide ((if false then 0 else s5.len - (0 + (1 + ((opImgs [1, 2] 4 7).length : Int)))) = 61))] ⟨rfl, trivial⟩ (v := .bool (decide ((if false then 0 else s5.len - (0 + (1 + ((opImgs [1, 2] 4 7).length : Int)))) = 61))) rfl ?_
        exact ⟨[tblA pt], ⟨rfl, rfl⟩, H.perm 9 [3] rfl rfl⟩
      · exact absurd rfl h1
end Go.Proofs.YtanejicgmgpjcaaGreatDoor
