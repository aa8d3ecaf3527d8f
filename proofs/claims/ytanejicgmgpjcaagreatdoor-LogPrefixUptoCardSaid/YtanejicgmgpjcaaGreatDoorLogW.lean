/-
  Walks: a law's images. No condition.
-/
import Derived.Test.YtanejicgmgpjcaaGreatDoorLogV
set_option maxRecDepth 100000
namespace Go.Proofs.YtanejicgmgpjcaaGreatDoor
open Go.RowKit
set_option maxHeartbeats 1000000 in
theorem images_c (k0 kd fl k4 k5 : Int) (k6 pv : Value) (ns : List Int) (A : Asn) (hA : ∀ h, A h → rdH 1 pv ns.length (ns.map (Value.int .i64)) h) (hk6 : k6.oneCell' = true) (hns : ns.length ≤ 1099511627776) : Cn Tryz.prog 10 [.agg #[.int .i64 k0, pv, .int .i64 kd, .int .i64 fl, .int .i64 k4, .int .i64 k5, k6]] [A] (fun v Γ => ∃ hq, imgsH v (opImgs ns kd fl) hq ∧ Γ = [poolA hq, A]) := by
  intro z R w H'
  have H : Sep z (A :: R) w := H'
  clear H'
  obtain ⟨ao, pc, rfl⟩ := H.says 0 rfl (fun h q => (hA h q).slc)
  refine enter Tryz.func10 rfl 40 Tryz.ntmps10 rfl ?_
  refine k_seq ?_
  refine s_region ?_
  refine s_go rfl rfl rfl (n_box H rfl rfl (cs := [.int .i64 k0, .slice ao ns.length pc, .int .i64 kd, .int .i64 fl, .int .i64 k4, .int .i64 k5, k6]) rfl) ?_
  rintro _ w ⟨b1, rfl, H'⟩
  have H : Sep z (blk b1 [.int .i64 k0, .slice ao ns.length pc, .int .i64 kd, .int .i64 fl, .int .i64 k4, .int .i64 k5, k6] 36 :: A :: R) w := H'
  clear H'
  refine s_do rfl rfl rfl (d_assign rfl rfl) ?_
  refine s_end ?_
  refine k_seq ?_
  refine s_region ?_
  refine s_do rfl rfl rfl (d_assign rfl rfl) ?_
  refine s_end ?_
  refine k_seq ?_
  refine k_seq ?_
  refine s_region ?_
  refine s_do rfl rfl rfl (d_assign rfl rfl) ?_
  refine s_end ?_
  have H' := H.nilg 85 3
  have H : Sep z (grow 85 3 (.slice none 0 0) 0 [] :: blk b1 [.int .i64 k0, .slice ao ns.length pc, .int .i64 kd, .int .i64 fl, .int .i64 k4, .int .i64 k5, k6] 36 :: A :: R) w := H'
  clear H'
  have H' := pool0 H
  have H : Sep z (poolA (fun _ => none) :: grow 85 3 (.slice none 0 0) 0 [] :: blk b1 [.int .i64 k0, .slice ao ns.length pc, .int .i64 kd, .int .i64 fl, .int .i64 k4, .int .i64 k5, k6] 36 :: A :: R) w := H'
  clear H'
  refine k_block ?_
  refine c_loop (σ := Nat × Value × List ImE × Hp) (fun ⟨i, v, es, hq⟩ => [(4, .int .i64 (i : Int)), (3, v), (1, .pointer (some ⟨b1, 0, none⟩)), (2, .slice none 0 0)])
    (fun ⟨i, v, es, hq⟩ w => Sep z (poolA hq :: grow 85 3 v i (imC es) :: blk b1 [.int .i64 k0, .slice ao ns.length pc, .int .i64 kd, .int .i64 fl, .int .i64 k4, .int .i64 k5, k6] 36 :: A :: R) w ∧ (i ≤ ns.length ∧ es.map Prod.fst = opImgs (ns.take i) kd fl ∧ imesOk es hq)) (fun ⟨i, v, es, hq⟩ => ns.length - i) ⟨0, .slice none 0 0, [], (fun _ => none)⟩
    (fun _ hF => (hF.cons (hF.cons (hF.cons (hF.cons hF.nil 2 _ _ rfl rfl) 1 _ _ rfl rfl) 3 _ _ rfl (by go_num)) 4 _ _ rfl (by go_num))) ⟨H, by omega, rfl, fun e he => absurd he (by simp)⟩ ?_
  clear H; rintro ⟨i, v, es, hq⟩ w ⟨H', hI⟩
  dsimp only at hI H' ⊢
  have H : Sep z (poolA hq :: grow 85 3 v i (imC es) :: blk b1 [.int .i64 k0, .slice ao ns.length pc, .int .i64 kd, .int .i64 fl, .int .i64 k4, .int .i64 k5, k6] 36 :: A :: R) w := H'
  clear H'
  have sv := H.says 1 rfl (fun h q => q.slc)
  obtain ⟨hin, hes, hok⟩ := hI
  refine k_seq ?_
  refine k_seq ?_
  refine s_region ?_
  refine s_do rfl rfl rfl (d_move rfl rfl) ?_
  refine s_do rfl rfl rfl (d_field rfl (k := 1) (r := 1) (by kernel_rfl) rfl rfl) ?_
  refine s_do rfl rfl rfl (d_load rfl rfl (by kernel_rfl) (here (H.cel 2 rfl 1 rfl))) ?_
  refine s_do rfl rfl rfl (d_len rfl (z := 1) (by kernel_rfl) rfl) ?_
  refine s_do rfl rfl rfl (d_lss rfl rfl rfl) ?_
  refine s_end ?_
  refine k_dec rfl (fun h1 => ?_) (fun h1 => ?_)
  · -- yes: (i : Int) < (ns.length : Int)
    have hlt : i < ns.length := by omega
    refine k_skip ?_
    refine k_seq ?_
    refine k_block ?_
    refine k_seq ?_
    obtain ⟨x, hx⟩ : ∃ x, ns[i]? = some x := ⟨_, List.getElem?_eq_getElem (by omega)⟩
    have hat := (H.rd 3 rfl hA).at (j := i) (u := .int .i64 x) (by simp [hx])
    refine s_region ?_
    refine s_do rfl rfl rfl (d_assign rfl rfl) ?_
    refine s_end ?_
    refine k_seq ?_
    refine k_seq ?_
    refine s_region ?_
    refine s_do rfl rfl rfl (d_assign rfl rfl) ?_
    refine s_end ?_
    have H' := H.nilg 5 1
    have H : Sep z (grow 5 1 (.slice none 0 0) 0 [] :: poolA hq :: grow 85 3 v i (imC es) :: blk b1 [.int .i64 k0, .slice ao ns.length pc, .int .i64 kd, .int .i64 fl, .int .i64 k4, .int .i64 k5, k6] 36 :: A :: R) w := H'
    clear H'
    refine k_block ?_
    refine c_loop (σ := Nat × Value) (fun ⟨j, vb⟩ => [(6, .int .i64 (j : Int)), (5, vb), (1, .pointer (some ⟨b1, 0, none⟩)), (2, .slice none 0 0), (3, v), (4, .int .i64 (i : Int)), (7, .int .i64 (i : Int)), (8, .pointer (some ⟨b1, 1, none⟩)), (9, .slice ao ns.length pc), (10, .int .i64 (ns.length : Int)), (11, .bool (decide ((i : Int) < (ns.length : Int))))])
      (fun ⟨j, vb⟩ w => Sep z (grow 5 1 vb j ((List.replicate j (opB fl i)).map u8) :: poolA hq :: grow 85 3 v i (imC es) :: blk b1 [.int .i64 k0, .slice ao ns.length pc, .int .i64 kd, .int .i64 fl, .int .i64 k4, .int .i64 k5, k6] 36 :: A :: R) w ∧ (j ≤ 240)) (fun ⟨j, vb⟩ => 240 - j) ⟨0, .slice none 0 0⟩
      (fun _ hF => (hF.cons (hF.cons (hF.cons (hF.cons (hF.cons (hF.cons (hF.cons (hF.cons (hF.cons (hF.cons (hF.cons hF.nil 11 _ _ rfl rfl) 10 _ _ rfl rfl) 9 _ _ rfl rfl) 8 _ _ rfl rfl) 7 _ _ rfl rfl) 4 _ _ rfl rfl) 3 _ _ rfl rfl) 2 _ _ rfl rfl) 1 _ _ rfl rfl) 5 _ _ rfl (by go_num)) 6 _ _ rfl (by go_num))) ⟨H, by omega⟩ ?_
    clear H; rintro ⟨j, vb⟩ w ⟨H', hI⟩
    dsimp only at hI H' ⊢
    have H : Sep z (grow 5 1 vb j ((List.replicate j (opB fl i)).map u8) :: poolA hq :: grow 85 3 v i (imC es) :: blk b1 [.int .i64 k0, .slice ao ns.length pc, .int .i64 kd, .int .i64 fl, .int .i64 k4, .int .i64 k5, k6] 36 :: A :: R) w := H'
    clear H'
    have svb := H.says 0 rfl (fun h q => q.slc)
    have sv := H.says 2 rfl (fun h q => q.slc)
    have hj := hI; clear hI
    refine k_seq ?_
    refine k_seq ?_
    refine s_region ?_
    refine s_do rfl rfl rfl (d_move rfl rfl) ?_
    refine s_do rfl rfl rfl (d_lss rfl rfl rfl) ?_
    refine s_end ?_
    refine k_dec rfl (fun h2 => ?_) (fun h2 => ?_)
    · -- yes: (j : Int) < 240
      refine k_skip ?_
      refine k_seq ?_
      refine k_block ?_
      refine s_region ?_
      refine s_do rfl rfl rfl (d_move rfl rfl) ?_
      refine s_do rfl rfl rfl (d_field rfl (k := 3) (r := 3) (by kernel_rfl) rfl rfl) ?_
      refine s_do rfl rfl rfl (d_load rfl rfl (by kernel_rfl) (here (H.cel 3 rfl 3 rfl))) ?_
      refine s_do rfl rfl rfl (d_move rfl rfl) ?_
      refine s_do rfl rfl rfl (d_addW rfl rfl rfl) ?_
      refine s_do rfl rfl rfl (d_to8 rfl (by kernel_rfl) rfl) ?_
      refine s_go rfl rfl rfl (n_buildSlice H rfl (by kernel_rfl) (Elt.mk (P := Tryz.prog) (e := 5) (z := u8 0) (sz := 1) (by_ := 1) (by kernel_rfl) rfl (by omega) (by omega)) rfl (by decide) (by decide) (out := [u8 (opB fl i)]) (by kernel_rfl)) ?_
      rintro _ w ⟨b2, rfl, H'⟩
      have H : Sep z (blk b2 [u8 (opB fl i)] 5 :: grow 5 1 vb j ((List.replicate j (opB fl i)).map u8) :: poolA hq :: grow 85 3 v i (imC es) :: blk b1 [.int .i64 k0, .slice ao ns.length pc, .int .i64 kd, .int .i64 fl, .int .i64 k4, .int .i64 k5, k6] 36 :: A :: R) w := H'
      clear H'
      refine s_go rfl rfl rfl (n_append 1 H rfl rfl (by kernel_rfl) (Elt.mk (P := Tryz.prog) (e := 5) (z := u8 0) (sz := 1) (by_ := 1) (by kernel_rfl) rfl (by omega) (by omega)) rfl rfl (H.rd 0 rfl (fun h q => q.rd (by omega) (by omega) (by simp) rfl)) (by simp [u8, Value.oneCell']) (by omega)) ?_
      rintro v3 w H'
      have H' : Sep z (blk b2 [u8 (opB fl i)] 5 :: grow 5 1 v3 (j + 1) ((List.replicate j (opB fl i)).map u8 ++ [u8 (opB fl i)]) :: poolA hq :: grow 85 3 v i (imC es) :: blk b1 [.int .i64 k0, .slice ao ns.length pc, .int .i64 kd, .int .i64 fl, .int .i64 k4, .int .i64 k5, k6] 36 :: A :: R) w := H'
      have ev3 : ((List.replicate j (opB fl i)).map u8 ++ [u8 (opB fl i)] : List Value) = (List.replicate (j + 1) (opB fl i)).map u8 := rep_snoc j (opB fl i)
      rw [ev3] at H'
      have H : Sep z (blk b2 [u8 (opB fl i)] 5 :: grow 5 1 v3 (j + 1) ((List.replicate (j + 1) (opB fl i)).map u8) :: poolA hq :: grow 85 3 v i (imC es) :: blk b1 [.int .i64 k0, .slice ao ns.length pc, .int .i64 kd, .int .i64 fl, .int .i64 k4, .int .i64 k5, k6] 36 :: A :: R) w := H'
      clear H'
      have sv3 := H.says 1 rfl (fun h q => q.slc)
      refine s_do rfl rfl rfl (d_assign rfl rfl) ?_
      refine s_end ?_
      refine s_region ?_
      refine s_do rfl rfl rfl (d_move rfl rfl) ?_
      refine s_do rfl rfl rfl (d_add64 rfl rfl rfl (r := (j : Int) + 1) (by omega) (by omega)) ?_
      refine s_do rfl rfl rfl (d_assign rfl rfl) ?_
      refine s_end ?_
      have H' := H.pick 6 [1, 2, 3, 4, 5] rfl
      have H : Sep z (grow 5 1 v3 (j + 1) ((List.replicate (j + 1) (opB fl i)).map u8) :: poolA hq :: grow 85 3 v i (imC es) :: blk b1 [.int .i64 k0, .slice ao ns.length pc, .int .i64 kd, .int .i64 fl, .int .i64 k4, .int .i64 k5, k6] 36 :: A :: R) w := H'
      clear H'
      intro _ hF
      refine ⟨⟨j + 1, v3⟩, (hF.cons (hF.cons (hF.cons (hF.cons (hF.cons (hF.cons (hF.cons (hF.cons (hF.cons (hF.cons (hF.cons hF.nil 11 _ _ rfl rfl) 10 _ _ rfl rfl) 9 _ _ rfl rfl) 8 _ _ rfl rfl) 7 _ _ rfl rfl) 4 _ _ rfl rfl) 3 _ _ rfl rfl) 2 _ _ rfl rfl) 1 _ _ rfl rfl) 5 _ _ rfl rfl) 6 _ _ rfl (by go_num)), ⟨H, ?_⟩, ?_⟩
      · dsimp only; omega
      · (dsimp only; omega)
    · -- no: (j : Int) < 240
      obtain rfl : j = 240 := by omega
      refine k_exit ?_
      refine k_here ?_
      obtain ⟨bo, bc, rfl⟩ := H.says 0 rfl (fun h q => q.slc)
      have H : Sep z (grow 5 1 (.slice bo 240 bc) 240 ((List.replicate 240 (opB fl i)).map u8) :: poolA hq :: grow 85 3 v i (imC es) :: blk b1 [.int .i64 k0, .slice ao ns.length pc, .int .i64 kd, .int .i64 fl, .int .i64 k4, .int .i64 k5, k6] 36 :: A :: R) w := H
      have H' := H.pick 5 [1, 0, 2, 3, 4] rfl
      have H : Sep z (poolA hq :: grow 5 1 (.slice bo 240 bc) 240 ((List.replicate 240 (opB fl i)).map u8) :: grow 85 3 v i (imC es) :: blk b1 [.int .i64 k0, .slice ao ns.length pc, .int .i64 kd, .int .i64 fl, .int .i64 k4, .int .i64 k5, k6] 36 :: A :: R) w := H'
      clear H'
      obtain ⟨hq2, ⟨shq2, hbody⟩, H'⟩ := pool_rd H (fun h q => q.rd)
      clear H
      have H : Sep z (poolA hq2 :: grow 85 3 v i (imC es) :: blk b1 [.int .i64 k0, .slice ao ns.length pc, .int .i64 kd, .int .i64 fl, .int .i64 k4, .int .i64 k5, k6] 36 :: A :: R) w := H'
      clear H'
      have H' := H.pick 4 [2, 3, 0, 1] rfl
      have H : Sep z (blk b1 [.int .i64 k0, .slice ao ns.length pc, .int .i64 kd, .int .i64 fl, .int .i64 k4, .int .i64 k5, k6] 36 :: A :: poolA hq2 :: grow 85 3 v i (imC es) :: R) w := H'
      clear H'
      refine a_region (Sep z (blk b1 [.int .i64 k0, .slice ao ns.length pc, .int .i64 kd, .int .i64 fl, .int .i64 k4, .int .i64 k5, k6] 36 :: A :: R)) 14 rfl (by kernel_rfl) (fun w' x' _ => ?_)
      have H' := H.ext0 x'; clear x' H; revert H'; generalize w' = w; intro H'
      have H : Sep z (blk b1 [.int .i64 k0, .slice ao ns.length pc, .int .i64 kd, .int .i64 fl, .int .i64 k4, .int .i64 k5, k6] 36 :: A :: poolA hq2 :: grow 85 3 v i (imC es) :: R) w := H'
      clear H'
      refine a_do 0 rfl (by kernel_rfl) (by kernel_rfl) (by kernel_rfl) rfl rfl rfl (d_move rfl rfl) (H.pick 4 [0, 1] rfl) ?_
      refine a_do 1 rfl (by kernel_rfl) (by kernel_rfl) (by kernel_rfl) rfl rfl rfl (d_field rfl (k := 1) (r := 1) (by kernel_rfl) rfl rfl) (H.pick 4 [0, 1] rfl) ?_
      refine a_do 2 rfl (by kernel_rfl) (by kernel_rfl) (by kernel_rfl) rfl rfl rfl (d_load rfl rfl (by kernel_rfl) (fun _ hx => hx.cel 0 rfl 1 rfl)) (H.pick 4 [0, 1] rfl) ?_
      refine a_do 3 rfl (by kernel_rfl) (by kernel_rfl) (by kernel_rfl) rfl rfl rfl (d_move rfl rfl) (H.pick 4 [0, 1] rfl) ?_
      refine a_do 4 rfl (by kernel_rfl) (by kernel_rfl) (by kernel_rfl) rfl rfl rfl (d_indexE rfl (z := 1) (j := i) (r := i) (by kernel_rfl) rfl rfl rfl (by omega) hat (by omega)) (H.pick 4 [0, 1] rfl) ?_
      refine a_do 5 rfl (by kernel_rfl) (by kernel_rfl) (by kernel_rfl) rfl rfl rfl (d_loadE rfl rfl (by kernel_rfl) (fun _ hx' => (hx'.rd 1 rfl hA).at (j := i) (u := .int .i64 x) (by simp [hx]))) (H.pick 4 [0, 1] rfl) ?_
      refine a_do 6 rfl (by kernel_rfl) (by kernel_rfl) (by kernel_rfl) rfl rfl rfl (d_field rfl (k := 2) (r := 2) (by kernel_rfl) rfl rfl) (H.pick 4 [0, 1] rfl) ?_
      refine a_do 7 rfl (by kernel_rfl) (by kernel_rfl) (by kernel_rfl) rfl rfl rfl (d_load rfl rfl (by kernel_rfl) (fun _ hx => hx.cel 0 rfl 2 rfl)) (H.pick 4 [0, 1] rfl) ?_
      refine a_do 8 rfl (by kernel_rfl) (by kernel_rfl) (by kernel_rfl) rfl rfl rfl (d_move rfl rfl) (H.pick 4 [0, 1] rfl) ?_
      refine a_do 9 rfl (by kernel_rfl) (by kernel_rfl) (by kernel_rfl) rfl rfl rfl (d_build rfl rfl (out := [.int .i64 kd, .slice bo 240 bc]) (by kernel_rfl)) (H.pick 4 [0, 1] rfl) ?_
      refine a_do 10 rfl (by kernel_rfl) (by kernel_rfl) (by kernel_rfl) rfl rfl rfl (d_build rfl rfl (out := [.int .i64 x, .int .i64 kd, .slice bo 240 bc]) (by kernel_rfl)) (H.pick 4 [0, 1] rfl) ?_
      refine a_all [11] (by kernel_rfl) (by simp) ?_
      refine all1 ?_
      refine o_go rfl rfl rfl rfl (n_buildSlice H rfl (by kernel_rfl) (Elt.mk (P := Tryz.prog) (e := 85) (z := .agg #[.int .i64 0, .int .i64 0, .slice none 0 0]) (sz := 3) (by_ := 40) (by kernel_rfl) rfl (by omega) (by omega)) rfl (by decide) (by decide) (out := [.int .i64 x, .int .i64 kd, .slice bo 240 bc]) (by kernel_rfl)) ?_
      rintro _ w ⟨b4, rfl, H'⟩
      have H : Sep z (blk b4 [.int .i64 x, .int .i64 kd, .slice bo 240 bc] 85 :: blk b1 [.int .i64 k0, .slice ao ns.length pc, .int .i64 kd, .int .i64 fl, .int .i64 k4, .int .i64 k5, k6] 36 :: A :: poolA hq2 :: grow 85 3 v i (imC es) :: R) w := H'
      clear H'
      refine a_and (H.pick 5 [1, 2] rfl) ?_
      refine a_all [12] (by kernel_rfl) (by simp) ?_
      refine all1 ?_
      refine o_go rfl rfl rfl rfl (n_append 4 H rfl rfl (by kernel_rfl) (Elt.mk (P := Tryz.prog) (e := 85) (z := .agg #[.int .i64 0, .int .i64 0, .slice none 0 0]) (sz := 3) (by_ := 40) (by kernel_rfl) rfl (by omega) (by omega)) rfl rfl (H.rd 0 rfl (fun h q => q.rd (by omega) (by omega) (by simp) rfl)) (by simp [Value.oneCell']) (by omega)) ?_
      rintro v5 w H'
      have H' : Sep z (blk b4 [.int .i64 x, .int .i64 kd, .slice bo 240 bc] 85 :: blk b1 [.int .i64 k0, .slice ao ns.length pc, .int .i64 kd, .int .i64 fl, .int .i64 k4, .int .i64 k5, k6] 36 :: A :: poolA hq2 :: grow 85 3 v5 (i + 1) (imC es ++ [.int .i64 x, .int .i64 kd, .slice bo 240 bc]) :: R) w := H'
      have ev5 : (imC es ++ [.int .i64 x, .int .i64 kd, .slice bo 240 bc] : List Value) = imC (es ++ [(opIm kd fl i x, .slice bo 240 bc)]) := imC_snoc es (opIm kd fl i x, .slice bo 240 bc)
      rw [ev5] at H'
      have H : Sep z (blk b4 [.int .i64 x, .int .i64 kd, .slice bo 240 bc] 85 :: blk b1 [.int .i64 k0, .slice ao ns.length pc, .int .i64 kd, .int .i64 fl, .int .i64 k4, .int .i64 k5, k6] 36 :: A :: poolA hq2 :: grow 85 3 v5 (i + 1) (imC (es ++ [(opIm kd fl i x, .slice bo 240 bc)])) :: R) w := H'
      clear H'
      have sv5 := H.says 4 rfl (fun h q => q.slc)
      refine a_and (H.pick 5 [1, 2] rfl) ?_
      refine a_do 13 rfl (by kernel_rfl) (by kernel_rfl) (by kernel_rfl) rfl rfl rfl (d_assign rfl rfl) (H.pick 5 [1, 2] rfl) ?_
      refine a_done (by kernel_rfl) ?_
      refine s_region ?_
      refine s_do rfl rfl rfl (d_move rfl rfl) ?_
      refine s_do rfl rfl rfl (d_add64 rfl rfl rfl (r := (i : Int) + 1) (by omega) (by omega)) ?_
      refine s_do rfl rfl rfl (d_assign rfl rfl) ?_
      refine s_end ?_
      have H' := H.pick 5 [3, 4, 1, 2] rfl
      have H : Sep z (poolA hq2 :: grow 85 3 v5 (i + 1) (imC (es ++ [(opIm kd fl i x, .slice bo 240 bc)])) :: blk b1 [.int .i64 k0, .slice ao ns.length pc, .int .i64 kd, .int .i64 fl, .int .i64 k4, .int .i64 k5, k6] 36 :: A :: R) w := H'
      clear H'
      intro _ hF
      refine ⟨⟨i + 1, v5, es ++ [(opIm kd fl i x, .slice bo 240 bc)], hq2⟩, (hF.cons (hF.cons (hF.cons (hF.cons hF.nil 2 _ _ rfl rfl) 1 _ _ rfl rfl) 3 _ _ rfl rfl) 4 _ _ rfl (by go_num)), ⟨H, ?_⟩, ?_⟩
      · dsimp only
        refine ⟨by omega, by rw [List.map_append, hes, ← opImgs_snoc kd fl hx]; rfl, ?_⟩
        intro e he; rcases List.mem_append.1 he with q | q
        · exact (hok e q).le shq2
        · rw [List.mem_singleton.1 q]; simpa [opIm] using hbody
      · (dsimp only; omega)
  · -- no: (i : Int) < (ns.length : Int)
    obtain rfl : i = ns.length := by omega
    refine k_exit ?_
    refine k_here ?_
    refine k_seq ?_
    refine s_region ?_
    refine s_do rfl rfl rfl (d_move rfl rfl) ?_
    refine s_do rfl rfl rfl (d_assign rfl rfl) ?_
    refine s_end ?_
    refine k_ret ?_
    refine doneL rfl [v] ⟨rfl, trivial⟩ (v := v) rfl ?_
    rw [List.take_length] at hes
    have hel : es.length = ns.length := by have := congrArg List.length hes; simpa [opImgs] using this
    obtain ⟨hq7, ⟨shq7, him7⟩, H'⟩ := pool_rd H (fun h q => q.rd)
    clear H
    have H : Sep z (poolA hq7 :: blk b1 [.int .i64 k0, .slice ao ns.length pc, .int .i64 kd, .int .i64 fl, .int .i64 k4, .int .i64 k5, k6] 36 :: A :: R) w := H'
    clear H'
    exact ⟨[poolA hq7, A], ⟨hq7, ⟨es, hes, by rw [opImgs_len]; exact him7, hok.le shq7⟩, rfl⟩, H.perm 3 [0, 2] rfl rfl⟩
end Go.Proofs.YtanejicgmgpjcaaGreatDoor
