/-
  Walks: comparing records. No condition.
-/
import Derived.Test.YtanejicgmgpjcaaGreatDoorLogW
set_option maxRecDepth 100000
namespace Go.Proofs.YtanejicgmgpjcaaGreatDoor
open Go.RowKit
theorem same_c (v1 v2 : Value) (bs : List UInt8) (A : Asn) (hA1 : ∀ h, A h → rdH 1 v1 bs.length (bs.map u8) h) (hA2 : ∀ h, A h → rdH 1 v2 bs.length (bs.map u8) h) : Cn Tryz.prog 32 [v1, v2] [A] (fun v Γ => v = .bool true ∧ Γ = [A]) := by
  intro z R w H'
  have H : Sep z (A :: R) w := H'
  clear H'
  obtain ⟨ao1, c1, rfl⟩ := H.says 0 rfl (fun h q => (hA1 h q).slc)
  obtain ⟨ao2, c2, rfl⟩ := H.says 0 rfl (fun h q => (hA2 h q).slc)
  have hsm := H.says 0 rfl (fun h q => (hA1 h q).small)
  refine enter Tryz.func32 rfl 26 Tryz.ntmps32 rfl ?_
  refine k_seq ?_
  refine s_region ?_
  refine s_do rfl rfl rfl (d_assign rfl rfl) ?_
  refine s_end ?_
  refine k_seq ?_
  refine k_seq ?_
  refine s_region ?_
  refine s_do rfl rfl rfl (d_move rfl rfl) ?_
  refine s_do rfl rfl rfl (d_len rfl (z := 1) (by kernel_rfl) rfl) ?_
  refine s_do rfl rfl rfl (d_move rfl rfl) ?_
  refine s_do rfl rfl rfl (d_len rfl (z := 1) (by kernel_rfl) rfl) ?_
  refine s_do rfl rfl rfl (d_neq rfl rfl rfl) ?_
  refine s_end ?_
  refine k_dec rfl (fun h1 => ?_) (fun h1 => ?_)
  · exact absurd rfl h1
  · -- no: (bs.length : Int) ≠ (bs.length : Int)
    refine k_skip ?_
    refine k_seq ?_
    refine k_seq ?_
    refine s_region ?_
    refine s_do rfl rfl rfl (d_assign rfl rfl) ?_
    refine s_end ?_
    refine k_block ?_
    refine c_loop (σ := Nat) (fun i => [(5, .int .i64 (i : Int)), (0, .slice ao1 bs.length c1), (1, .slice ao2 bs.length c2)])
      (fun i w => Sep z (A :: R) w ∧ (i ≤ bs.length)) (fun i => bs.length - i) 0
      (fun _ hF => (hF.cons (hF.cons (hF.cons hF.nil 1 _ _ rfl rfl) 0 _ _ rfl rfl) 5 _ _ rfl (by go_num))) ⟨H, by omega⟩ ?_
    clear H; rintro i w ⟨H', hI⟩
    have H : Sep z (A :: R) w := H'
    clear H'
    have hib := hI; clear hI
    refine k_seq ?_
    refine k_seq ?_
    refine s_region ?_
    refine s_do rfl rfl rfl (d_move rfl rfl) ?_
    refine s_do rfl rfl rfl (d_move rfl rfl) ?_
    refine s_do rfl rfl rfl (d_len rfl (z := 1) (by kernel_rfl) rfl) ?_
    refine s_do rfl rfl rfl (d_lss rfl rfl rfl) ?_
    refine s_end ?_
    refine k_dec rfl (fun h2 => ?_) (fun h2 => ?_)
    · -- yes: (i : Int) < (bs.length : Int)
      refine k_skip ?_
      refine k_seq ?_
      refine k_block ?_
      refine k_seq ?_
      obtain ⟨x, hx⟩ : ∃ x, bs[i]? = some x := ⟨_, List.getElem?_eq_getElem (by omega)⟩
      have hat1 := (H.rd 0 rfl hA1).at (j := i) (u := u8 x) (by simp [hx])
      have hat2 := (H.rd 0 rfl hA2).at (j := i) (u := u8 x) (by simp [hx])
      refine q_region (Sep z (A :: R)) (by kernel_rfl) (by kernel_rfl) H.drew ?_
      refine q_do rfl rfl rfl (d_move rfl rfl) ?_
      refine q_do rfl rfl rfl (d_move rfl rfl) ?_
      refine q_do rfl rfl rfl (d_indexE rfl (z := 1) (j := i) (r := i) (by kernel_rfl) rfl rfl rfl (by omega) hat1 (by omega)) ?_
      refine q_do rfl rfl rfl (d_loadE rfl rfl (by kernel_rfl) (fun _ hx' => (hx'.rd 0 rfl hA1).at (j := i) (u := u8 x) (by simp [hx]))) ?_
      refine q_do rfl rfl rfl (d_move rfl rfl) ?_
      refine q_do rfl rfl rfl (d_move rfl rfl) ?_
      refine q_do rfl rfl rfl (d_indexE rfl (z := 1) (j := i) (r := i) (by kernel_rfl) rfl rfl rfl (by omega) hat2 (by omega)) ?_
      refine q_do rfl rfl rfl (d_loadE rfl rfl (by kernel_rfl) (fun _ hx' => (hx'.rd 0 rfl hA2).at (j := i) (u := u8 x) (by simp [hx]))) ?_
      refine q_do rfl rfl rfl (d_neq8 (k := .u8) rfl (by kernel_rfl) rfl rfl) ?_
      refine q_end (fun w H' => ?_)
      have H : Sep z (A :: R) w := H'
      clear H'
      refine k_dec rfl (fun h3 => ?_) (fun h3 => ?_)
      · exact absurd rfl h3
      · -- no: x ≠ x
        refine k_skip ?_
        refine s_region ?_
        refine s_do rfl rfl rfl (d_move rfl rfl) ?_
        refine s_do rfl rfl rfl (d_add64 rfl rfl rfl (r := (i : Int) + 1) (by omega) (by omega)) ?_
        refine s_do rfl rfl rfl (d_assign rfl rfl) ?_
        refine s_end ?_
        intro _ hF
        refine ⟨(i + 1), (hF.cons (hF.cons (hF.cons hF.nil 1 _ _ rfl rfl) 0 _ _ rfl rfl) 5 _ _ rfl (by go_num)), ⟨H, ?_⟩, ?_⟩
        · omega
        · omega
    · -- no: (i : Int) < (bs.length : Int)
      refine k_exit ?_
      refine k_here ?_
      refine k_seq ?_
      refine s_region ?_
      refine s_do rfl rfl rfl (d_assign rfl rfl) ?_
      refine s_end ?_
      refine k_ret ?_
      refine doneL rfl [.bool true] ⟨rfl, trivial⟩ (v := .bool true) rfl ?_
      exact ⟨[A], ⟨rfl, rfl⟩, H⟩

set_option maxHeartbeats 1000000 in
theorem records_c (v1 v2 : Value) (rs : List Rc) (hq : Hp) (h1 : recsH v1 rs hq) (h2 : recsH v2 rs hq) : Cn Tryz.prog 20 [v1, v2] [poolA hq] (fun v Γ => v = .bool true ∧ Γ = [poolA hq]) := by
  intro z R w H'
  have H : Sep z (poolA hq :: R) w := H'
  clear H'
  obtain ⟨es1, he1, hr1, hk1⟩ := h1
  obtain ⟨es2, he2, hr2, hk2⟩ := h2
  obtain ⟨ao1, c1, rfl⟩ := hr1.slc
  obtain ⟨ao2, c2, rfl⟩ := hr2.slc
  have hel1 : es1.length = rs.length := by rw [← he1]; simp
  have hel2 : es2.length = rs.length := by rw [← he2]; simp
  have hsm0 := hr1.small
  refine enter Tryz.func20 rfl 96 Tryz.ntmps20 rfl ?_
  refine k_seq ?_
  refine s_region ?_
  refine s_do rfl rfl rfl (d_assign rfl rfl) ?_
  refine s_end ?_
  refine k_seq ?_
  refine k_seq ?_
  refine s_region ?_
  refine s_do rfl rfl rfl (d_move rfl rfl) ?_
  refine s_do rfl rfl rfl (d_len rfl (z := 2) (by kernel_rfl) rfl) ?_
  refine s_do rfl rfl rfl (d_move rfl rfl) ?_
  refine s_do rfl rfl rfl (d_len rfl (z := 2) (by kernel_rfl) rfl) ?_
  refine s_do rfl rfl rfl (d_neq rfl rfl rfl) ?_
  refine s_end ?_
  refine k_dec rfl (fun h1 => ?_) (fun h1 => ?_)
  · exact absurd rfl h1
  · -- no: (rs.length : Int) ≠ (rs.length : Int)
    refine k_skip ?_
    refine k_seq ?_
    refine k_seq ?_
    refine s_region ?_
    refine s_do rfl rfl rfl (d_assign rfl rfl) ?_
    refine s_end ?_
    refine k_block ?_
    refine c_loop (σ := Nat) (fun i => [(5, .int .i64 (i : Int)), (0, .slice ao1 rs.length c1), (1, .slice ao2 rs.length c2)])
      (fun i w => Sep z (poolA hq :: R) w ∧ (i ≤ rs.length)) (fun i => rs.length - i) 0
      (fun _ hF => (hF.cons (hF.cons (hF.cons hF.nil 1 _ _ rfl rfl) 0 _ _ rfl rfl) 5 _ _ rfl (by go_num))) ⟨H, by omega⟩ ?_
    clear H; rintro i w ⟨H', hI⟩
    have H : Sep z (poolA hq :: R) w := H'
    clear H'
    have hir := hI; clear hI
    refine k_seq ?_
    refine k_seq ?_
    refine s_region ?_
    refine s_do rfl rfl rfl (d_move rfl rfl) ?_
    refine s_do rfl rfl rfl (d_move rfl rfl) ?_
    refine s_do rfl rfl rfl (d_len rfl (z := 2) (by kernel_rfl) rfl) ?_
    refine s_do rfl rfl rfl (d_lss rfl rfl rfl) ?_
    refine s_end ?_
    refine k_dec rfl (fun h2 => ?_) (fun h2 => ?_)
    · -- yes: (i : Int) < (rs.length : Int)
      refine k_skip ?_
      refine k_seq ?_
      refine k_block ?_
      refine k_seq ?_
      refine k_seq ?_
      obtain ⟨⟨rc, w1⟩, hg1⟩ : ∃ e : RcE, es1[i]? = some e := ⟨_, List.getElem?_eq_getElem (by omega)⟩
      obtain ⟨⟨rc2, w2⟩, hg2⟩ : ∃ e : RcE, es2[i]? = some e := ⟨_, List.getElem?_eq_getElem (by omega)⟩
      obtain rfl : rc2 = rc := by
        have a1 : rs[i]? = some rc := by rw [← he1]; simp [hg1]
        have a2 : rs[i]? = some rc2 := by rw [← he2]; simp [hg2]
        rw [a1] at a2; simpa using a2.symm
      obtain ⟨is1, hs1, hri1, hki1⟩ := hk1 _ (List.mem_of_getElem? hg1)
      obtain ⟨is2, hs2, hri2, hki2⟩ := hk2 _ (List.mem_of_getElem? hg2)
      dsimp only at hs1 hri1 hs2 hri2
      obtain ⟨ao3, c3, rfl⟩ := hri1.slc
      obtain ⟨ao4, c4, rfl⟩ := hri2.slc
      have hil1 : is1.length = rc2.ims.length := by rw [← hs1]; simp
      have hil2 : is2.length = rc2.ims.length := by rw [← hs2]; simp
      have hat1 := (H.rd 0 rfl (fun h q => hr1.le q)).at (rcC_get hg1 0 _ rfl)
      have hat2 := (H.rd 0 rfl (fun h q => hr2.le q)).at (rcC_get hg2 0 _ rfl)
      have hsm := hri1.small
      refine q_region (Sep z (poolA hq :: R)) (by kernel_rfl) (by kernel_rfl) H.drew ?_
      refine q_do rfl rfl rfl (d_move rfl rfl) ?_
      refine q_do rfl rfl rfl (d_move rfl rfl) ?_
      refine q_do rfl rfl rfl (d_indexE rfl (z := 2) (j := i) (r := i * 2) (by kernel_rfl) rfl rfl rfl (by omega) hat1 (by omega)) ?_
      refine q_do rfl rfl rfl (d_fieldE rfl (k := 0) (r := i * 2) (by kernel_rfl) rfl hat1 rfl) ?_
      refine q_do rfl rfl rfl (d_loadE rfl rfl (by kernel_rfl) (fun _ hx' => (hx'.rd 0 rfl (fun h q => hr1.le q)).at (rcC_get hg1 0 _ rfl))) ?_
      refine q_do rfl rfl rfl (d_move rfl rfl) ?_
      refine q_do rfl rfl rfl (d_move rfl rfl) ?_
      refine q_do rfl rfl rfl (d_indexE rfl (z := 2) (j := i) (r := i * 2) (by kernel_rfl) rfl rfl rfl (by omega) hat2 (by omega)) ?_
      refine q_do rfl rfl rfl (d_fieldE rfl (k := 0) (r := i * 2) (by kernel_rfl) rfl hat2 rfl) ?_
      refine q_do rfl rfl rfl (d_loadE rfl rfl (by kernel_rfl) (fun _ hx' => (hx'.rd 0 rfl (fun h q => hr2.le q)).at (rcC_get hg2 0 _ rfl))) ?_
      refine q_do rfl rfl rfl (d_neq rfl rfl rfl) ?_
      refine q_do rfl rfl rfl (d_move rfl rfl) ?_
      refine q_part 31 rfl (fun h3 => ?_) (fun h3 => ?_)
      · exact absurd rfl h3
      · -- no: (rc2.seq : Int) ≠ rc2.seq
        refine q_do rfl rfl rfl (d_move rfl rfl) ?_
        refine q_do rfl rfl rfl (d_move rfl rfl) ?_
        refine q_do rfl rfl rfl (d_indexE rfl (z := 2) (j := i) (r := i * 2) (by kernel_rfl) rfl rfl rfl (by omega) hat1 (by omega)) ?_
        refine q_do rfl rfl rfl (d_fieldE rfl (k := 1) (r := i * 2 + 1) (by kernel_rfl) rfl hat1 rfl) ?_
        refine q_do rfl rfl rfl (d_loadE rfl rfl (by kernel_rfl) (fun _ hx' => (hx'.rd 0 rfl (fun h q => hr1.le q)).at (rcC_get hg1 1 _ rfl))) ?_
        refine q_do rfl rfl rfl (d_len rfl (z := 3) (by kernel_rfl) rfl) ?_
        refine q_do rfl rfl rfl (d_move rfl rfl) ?_
        refine q_do rfl rfl rfl (d_move rfl rfl) ?_
        refine q_do rfl rfl rfl (d_indexE rfl (z := 2) (j := i) (r := i * 2) (by kernel_rfl) rfl rfl rfl (by omega) hat2 (by omega)) ?_
        refine q_do rfl rfl rfl (d_fieldE rfl (k := 1) (r := i * 2 + 1) (by kernel_rfl) rfl hat2 rfl) ?_
        refine q_do rfl rfl rfl (d_loadE rfl rfl (by kernel_rfl) (fun _ hx' => (hx'.rd 0 rfl (fun h q => hr2.le q)).at (rcC_get hg2 1 _ rfl))) ?_
        refine q_do rfl rfl rfl (d_len rfl (z := 3) (by kernel_rfl) rfl) ?_
        refine q_do rfl rfl rfl (d_neq rfl rfl rfl) ?_
        refine q_do rfl rfl rfl (d_pick_f rfl rfl rfl) ?_
        refine q_end (fun w H' => ?_)
        have H : Sep z (poolA hq :: R) w := H'
        clear H'
        refine k_dec rfl (fun h4 => ?_) (fun h4 => ?_)
        · exact absurd rfl h4
        · -- no: (rc2.ims.length : Int) ≠ (rc2.ims.length : Int)
          refine k_skip ?_
          refine k_seq ?_
          refine s_region ?_
          refine s_do rfl rfl rfl (d_assign rfl rfl) ?_
          refine s_end ?_
          refine k_block ?_
          refine c_loop (σ := Nat) (fun j => [(6, .int .i64 (j : Int)), (0, .slice ao1 rs.length c1), (1, .slice ao2 rs.length c2), (5, .int .i64 (i : Int)), (14, .int .i64 (i : Int)), (15, .slice ao1 rs.length c1), (16, .int .i64 (rs.length : Int)), (17, .bool (decide ((i : Int) < (rs.length : Int)))), (20, .slice ao1 rs.length c1), (21, .int .i64 (i : Int)), (22, eptr ao1 (i * 2)), (23, eptr ao1 (i * 2)), (24, .int .i64 rc2.seq), (25, .slice ao2 rs.length c2), (26, .int .i64 (i : Int)), (27, eptr ao2 (i * 2)), (28, eptr ao2 (i * 2)), (29, .int .i64 rc2.seq), (30, .bool (decide ((rc2.seq : Int) ≠ rc2.seq))), (31, .bool false), (32, .slice ao1 rs.length c1), (33, .int .i64 (i : Int)), (34, eptr ao1 (i * 2)), (35, eptr ao1 (i * 2 + 1)), (36, .slice ao3 rc2.ims.length c3), (37, .int .i64 (rc2.ims.length : Int)), (38, .slice ao2 rs.length c2), (39, .int .i64 (i : Int)), (40, eptr ao2 (i * 2)), (41, eptr ao2 (i * 2 + 1)), (42, .slice ao4 rc2.ims.length c4), (43, .int .i64 (rc2.ims.length : Int)), (44, .bool (decide ((rc2.ims.length : Int) ≠ (rc2.ims.length : Int)))), (45, .bool (decide ((rc2.ims.length : Int) ≠ (rc2.ims.length : Int))))])
            (fun j w => Sep z (poolA hq :: R) w ∧ (j ≤ rc2.ims.length)) (fun j => rc2.ims.length - j) 0
            (fun _ hF => (hF.cons (hF.cons (hF.cons (hF.cons (hF.cons (hF.cons (hF.cons (hF.cons (hF.cons (hF.cons (hF.cons (hF.cons (hF.cons (hF.cons (hF.cons (hF.cons (hF.cons (hF.cons (hF.cons (hF.cons (hF.cons (hF.cons (hF.cons (hF.cons (hF.cons (hF.cons (hF.cons (hF.cons (hF.cons (hF.cons (hF.cons (hF.cons (hF.cons (hF.cons hF.nil 45 _ _ rfl rfl) 44 _ _ rfl rfl) 43 _ _ rfl rfl) 42 _ _ rfl rfl) 41 _ _ rfl rfl) 40 _ _ rfl rfl) 39 _ _ rfl rfl) 38 _ _ rfl rfl) 37 _ _ rfl rfl) 36 _ _ rfl rfl) 35 _ _ rfl rfl) 34 _ _ rfl rfl) 33 _ _ rfl rfl) 32 _ _ rfl rfl) 31 _ _ rfl rfl) 30 _ _ rfl rfl) 29 _ _ rfl rfl) 28 _ _ rfl rfl) 27 _ _ rfl rfl) 26 _ _ rfl rfl) 25 _ _ rfl rfl) 24 _ _ rfl rfl) 23 _ _ rfl rfl) 22 _ _ rfl rfl) 21 _ _ rfl rfl) 20 _ _ rfl rfl) 17 _ _ rfl rfl) 16 _ _ rfl rfl) 15 _ _ rfl rfl) 14 _ _ rfl rfl) 5 _ _ rfl rfl) 1 _ _ rfl rfl) 0 _ _ rfl rfl) 6 _ _ rfl (by go_num))) ⟨H, by omega⟩ ?_
          clear H; rintro j w ⟨H', hI⟩
          have H : Sep z (poolA hq :: R) w := H'
          clear H'
          have hjr := hI; clear hI
          refine k_seq ?_
          refine k_seq ?_
          refine s_region ?_
          refine s_do rfl rfl rfl (d_move rfl rfl) ?_
          refine s_do rfl rfl rfl (d_move rfl rfl) ?_
          refine s_do rfl rfl rfl (d_move rfl rfl) ?_
          refine s_do rfl rfl rfl (d_indexE rfl (z := 2) (j := i) (r := i * 2) (by kernel_rfl) rfl rfl rfl (by omega) hat1 (by omega)) ?_
          refine s_do rfl rfl rfl (d_fieldE rfl (k := 1) (r := i * 2 + 1) (by kernel_rfl) rfl hat1 rfl) ?_
          refine s_do rfl rfl rfl (d_loadE rfl rfl (by kernel_rfl) (here ((H.rd 0 rfl (fun h q => hr1.le q)).at (rcC_get hg1 1 _ rfl)))) ?_
          refine s_do rfl rfl rfl (d_len rfl (z := 3) (by kernel_rfl) rfl) ?_
          refine s_do rfl rfl rfl (d_lss rfl rfl rfl) ?_
          refine s_end ?_
          refine k_dec rfl (fun h5 => ?_) (fun h5 => ?_)
          · -- yes: (j : Int) < (rc2.ims.length : Int)
            refine k_skip ?_
            refine k_seq ?_
            refine k_block ?_
            refine k_seq ?_
            obtain ⟨⟨im, u1⟩, hgi1⟩ : ∃ e : ImE, is1[j]? = some e := ⟨_, List.getElem?_eq_getElem (by omega)⟩
            obtain ⟨⟨im2, u2⟩, hgi2⟩ : ∃ e : ImE, is2[j]? = some e := ⟨_, List.getElem?_eq_getElem (by omega)⟩
            obtain rfl : im2 = im := by
              have a1 : rc2.ims[j]? = some im := by rw [← hs1]; simp [hgi1]
              have a2 : rc2.ims[j]? = some im2 := by rw [← hs2]; simp [hgi2]
              rw [a1] at a2; simpa using a2.symm
            have hb1 := hki1 _ (List.mem_of_getElem? hgi1)
            have hb2 := hki2 _ (List.mem_of_getElem? hgi2)
            dsimp only at hb1 hb2
            have su1 := hb1.slc
            have su2 := hb2.slc
            have hat3 := (H.rd 0 rfl (fun h q => hri1.le q)).at (imC_get hgi1 0 _ rfl)
            have hat4 := (H.rd 0 rfl (fun h q => hri2.le q)).at (imC_get hgi2 0 _ rfl)
            refine s_region ?_
            refine s_do rfl rfl rfl (d_move rfl rfl) ?_
            refine s_do rfl rfl rfl (d_move rfl rfl) ?_
            refine s_do rfl rfl rfl (d_indexE rfl (z := 2) (j := i) (r := i * 2) (by kernel_rfl) rfl rfl rfl (by omega) hat1 (by omega)) ?_
            refine s_do rfl rfl rfl (d_fieldE rfl (k := 1) (r := i * 2 + 1) (by kernel_rfl) rfl hat1 rfl) ?_
            refine s_do rfl rfl rfl (d_loadE rfl rfl (by kernel_rfl) (here ((H.rd 0 rfl (fun h q => hr1.le q)).at (rcC_get hg1 1 _ rfl)))) ?_
            refine s_do rfl rfl rfl (d_move rfl rfl) ?_
            refine s_do rfl rfl rfl (d_indexE rfl (z := 3) (j := j) (r := j * 3) (by kernel_rfl) rfl rfl rfl (by omega) hat3 (by omega)) ?_
            refine s_do rfl rfl rfl (d_loadAggE rfl rfl (vs := [.int .i64 im2.num, .int .i64 im2.kind, u1]) (by kernel_rfl) (by simp) (here (fun k u hk => (H.rd 0 rfl (fun h q => hri1.le q)).at (imC_get hgi1 k u hk)))) ?_
            refine s_go rfl rfl rfl (n_alloc (P := Tryz.prog) H rfl (zs := [.int .i64 0, .int .i64 0, .slice none 0 0]) (by kernel_rfl)) ?_
            rintro _ w ⟨b1, rfl, H'⟩
            have H : Sep z (blk b1 [.int .i64 0, .int .i64 0, .slice none 0 0] 85 :: poolA hq :: R) w := H'
            clear H'
            refine s_put rfl rfl (n_store 0 H rfl rfl rfl rfl (vs := [.int .i64 im2.num, .int .i64 im2.kind, u1]) rfl (one_cons rfl (one_cons rfl (one_cons su1.one one_nil))) (by kernel_rfl) (by simp) (out := [.int .i64 im2.num, .int .i64 im2.kind, u1]) rfl) ?_
            rintro w H'
            have H : Sep z (blk b1 [.int .i64 im2.num, .int .i64 im2.kind, u1] 85 :: poolA hq :: R) w := H'
            clear H'
            refine s_end ?_
            refine k_seq ?_
            refine s_region ?_
            refine s_do rfl rfl rfl (d_move rfl rfl) ?_
            refine s_do rfl rfl rfl (d_move rfl rfl) ?_
            refine s_do rfl rfl rfl (d_indexE rfl (z := 2) (j := i) (r := i * 2) (by kernel_rfl) rfl rfl rfl (by omega) hat2 (by omega)) ?_
            refine s_do rfl rfl rfl (d_fieldE rfl (k := 1) (r := i * 2 + 1) (by kernel_rfl) rfl hat2 rfl) ?_
            refine s_do rfl rfl rfl (d_loadE rfl rfl (by kernel_rfl) (here ((H.rd 1 rfl (fun h q => hr2.le q)).at (rcC_get hg2 1 _ rfl)))) ?_
            refine s_do rfl rfl rfl (d_move rfl rfl) ?_
            refine s_do rfl rfl rfl (d_indexE rfl (z := 3) (j := j) (r := j * 3) (by kernel_rfl) rfl rfl rfl (by omega) hat4 (by omega)) ?_
            refine s_do rfl rfl rfl (d_loadAggE rfl rfl (vs := [.int .i64 im2.num, .int .i64 im2.kind, u2]) (by kernel_rfl) (by simp) (here (fun k u hk => (H.rd 1 rfl (fun h q => hri2.le q)).at (imC_get hgi2 k u hk)))) ?_
            refine s_go rfl rfl rfl (n_alloc (P := Tryz.prog) H rfl (zs := [.int .i64 0, .int .i64 0, .slice none 0 0]) (by kernel_rfl)) ?_
            rintro _ w ⟨b2, rfl, H'⟩
            have H : Sep z (blk b2 [.int .i64 0, .int .i64 0, .slice none 0 0] 85 :: blk b1 [.int .i64 im2.num, .int .i64 im2.kind, u1] 85 :: poolA hq :: R) w := H'
            clear H'
            refine s_put rfl rfl (n_store 0 H rfl rfl rfl rfl (vs := [.int .i64 im2.num, .int .i64 im2.kind, u2]) rfl (one_cons rfl (one_cons rfl (one_cons su2.one one_nil))) (by kernel_rfl) (by simp) (out := [.int .i64 im2.num, .int .i64 im2.kind, u2]) rfl) ?_
            rintro w H'
            have H : Sep z (blk b2 [.int .i64 im2.num, .int .i64 im2.kind, u2] 85 :: blk b1 [.int .i64 im2.num, .int .i64 im2.kind, u1] 85 :: poolA hq :: R) w := H'
            clear H'
            refine s_end ?_
            refine k_seq ?_
            refine s_region ?_
            refine s_do rfl rfl rfl (d_field rfl (k := 0) (r := 0) (by kernel_rfl) rfl rfl) ?_
            refine s_do rfl rfl rfl (d_load rfl rfl (by kernel_rfl) (here (H.cel 1 rfl 0 rfl))) ?_
            refine s_do rfl rfl rfl (d_field rfl (k := 0) (r := 0) (by kernel_rfl) rfl rfl) ?_
            refine s_do rfl rfl rfl (d_load rfl rfl (by kernel_rfl) (here (H.cel 0 rfl 0 rfl))) ?_
            refine s_do rfl rfl rfl (d_neq rfl rfl rfl) ?_
            refine s_do rfl rfl rfl (d_move rfl rfl) ?_
            refine s_part 77 rfl (fun h6 => ?_) (fun h6 => ?_)
            · exact absurd rfl h6
            · -- no: (im2.num : Int) ≠ im2.num
              refine s_do rfl rfl rfl (d_field rfl (k := 1) (r := 1) (by kernel_rfl) rfl rfl) ?_
              refine s_do rfl rfl rfl (d_field rfl (k := 0) (r := 1) (by kernel_rfl) rfl rfl) ?_
              refine s_do rfl rfl rfl (d_load rfl rfl (by kernel_rfl) (here (H.cel 1 rfl 1 rfl))) ?_
              refine s_do rfl rfl rfl (d_field rfl (k := 1) (r := 1) (by kernel_rfl) rfl rfl) ?_
              refine s_do rfl rfl rfl (d_field rfl (k := 0) (r := 1) (by kernel_rfl) rfl rfl) ?_
              refine s_do rfl rfl rfl (d_load rfl rfl (by kernel_rfl) (here (H.cel 0 rfl 1 rfl))) ?_
              refine s_do rfl rfl rfl (d_neq rfl rfl rfl) ?_
              refine s_do rfl rfl rfl (d_pick_f rfl rfl rfl) ?_
              refine s_do rfl rfl rfl (d_move rfl rfl) ?_
              refine s_part 86 rfl (fun h7 => ?_) (fun h7 => ?_)
              · exact absurd rfl h7
              · -- no: (im2.kind : Int) ≠ im2.kind
                refine s_do rfl rfl rfl (d_field rfl (k := 1) (r := 1) (by kernel_rfl) rfl rfl) ?_
                refine s_do rfl rfl rfl (d_field rfl (k := 1) (r := 2) (by kernel_rfl) rfl rfl) ?_
                refine s_do rfl rfl rfl (d_load rfl rfl (by kernel_rfl) (here (H.cel 1 rfl 2 rfl))) ?_
                refine s_do rfl rfl rfl (d_field rfl (k := 1) (r := 1) (by kernel_rfl) rfl rfl) ?_
                refine s_do rfl rfl rfl (d_field rfl (k := 1) (r := 2) (by kernel_rfl) rfl rfl) ?_
                refine s_do rfl rfl rfl (d_load rfl rfl (by kernel_rfl) (here (H.cel 0 rfl 2 rfl))) ?_
                refine s_callC rfl rfl rfl rfl rfl (fun w => Tryz.call32 _ w) (same_c _ _ im2.body _ (fun h q => hb1.le q) (fun h q => hb2.le q)) H 3 [2, 0, 1] rfl rfl ?_
                rintro _ w _ ⟨rfl, rfl⟩ H'
                have H : Sep z (poolA hq :: blk b2 [.int .i64 im2.num, .int .i64 im2.kind, u2] 85 :: blk b1 [.int .i64 im2.num, .int .i64 im2.kind, u1] 85 :: R) w := H'
                clear H'
                refine s_do rfl rfl rfl (d_not rfl rfl) ?_
                refine s_do rfl rfl rfl (d_pick_f rfl rfl rfl) ?_
                refine s_end ?_
                refine k_false rfl ?_
                refine k_skip ?_
                refine s_region ?_
                refine s_do rfl rfl rfl (d_move rfl rfl) ?_
                refine s_do rfl rfl rfl (d_add64 rfl rfl rfl (r := (j : Int) + 1) (by omega) (by omega)) ?_
                refine s_do rfl rfl rfl (d_assign rfl rfl) ?_
                refine s_end ?_
                have H' := H.pick 3 [0] rfl
                have H : Sep z (poolA hq :: R) w := H'
                clear H'
                intro _ hF
                refine ⟨(j + 1), (hF.cons (hF.cons (hF.cons (hF.cons (hF.cons (hF.cons (hF.cons (hF.cons (hF.cons (hF.cons (hF.cons (hF.cons (hF.cons (hF.cons (hF.cons (hF.cons (hF.cons (hF.cons (hF.cons (hF.cons (hF.cons (hF.cons (hF.cons (hF.cons (hF.cons (hF.cons (hF.cons (hF.cons (hF.cons (hF.cons (hF.cons (hF.cons (hF.cons (hF.cons hF.nil 45 _ _ rfl rfl) 44 _ _ rfl rfl) 43 _ _ rfl rfl) 42 _ _ rfl rfl) 41 _ _ rfl rfl) 40 _ _ rfl rfl) 39 _ _ rfl rfl) 38 _ _ rfl rfl) 37 _ _ rfl rfl) 36 _ _ rfl rfl) 35 _ _ rfl rfl) 34 _ _ rfl rfl) 33 _ _ rfl rfl) 32 _ _ rfl rfl) 31 _ _ rfl rfl) 30 _ _ rfl rfl) 29 _ _ rfl rfl) 28 _ _ rfl rfl) 27 _ _ rfl rfl) 26 _ _ rfl rfl) 25 _ _ rfl rfl) 24 _ _ rfl rfl) 23 _ _ rfl rfl) 22 _ _ rfl rfl) 21 _ _ rfl rfl) 20 _ _ rfl rfl) 17 _ _ rfl rfl) 16 _ _ rfl rfl) 15 _ _ rfl rfl) 14 _ _ rfl rfl) 5 _ _ rfl rfl) 1 _ _ rfl rfl) 0 _ _ rfl rfl) 6 _ _ rfl (by go_num)), ⟨H, ?_⟩, ?_⟩
                · omega
                · omega
          · -- no: (j : Int) < (rc2.ims.length : Int)
            refine k_exit ?_
            refine k_here ?_
            refine s_region ?_
            refine s_do rfl rfl rfl (d_move rfl rfl) ?_
            refine s_do rfl rfl rfl (d_add64 rfl rfl rfl (r := (i : Int) + 1) (by omega) (by omega)) ?_
            refine s_do rfl rfl rfl (d_assign rfl rfl) ?_
            refine s_end ?_
            intro _ hF
            refine ⟨(i + 1), (hF.cons (hF.cons (hF.cons hF.nil 1 _ _ rfl rfl) 0 _ _ rfl rfl) 5 _ _ rfl (by go_num)), ⟨H, ?_⟩, ?_⟩
            · omega
            · omega
    · -- no: (i : Int) < (rs.length : Int)
      refine k_exit ?_
      refine k_here ?_
      refine k_seq ?_
      refine s_region ?_
      refine s_do rfl rfl rfl (d_assign rfl rfl) ?_
      refine s_end ?_
      refine k_ret ?_
      refine doneL rfl [.bool true] ⟨rfl, trivial⟩ (v := .bool true) rfl ?_
      exact ⟨[poolA hq], ⟨rfl, rfl⟩, H⟩
end Go.Proofs.YtanejicgmgpjcaaGreatDoor
