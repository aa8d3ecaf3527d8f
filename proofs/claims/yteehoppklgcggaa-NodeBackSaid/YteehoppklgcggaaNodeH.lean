/-
  Walks of the reference of package node: neighbours. No condition.
-/
import Derived.Test.YteehoppklgcggaaNodeG
set_option maxRecDepth 100000
namespace Go.Proofs.Yteehoppklgcggaa
open Go.RowKit
theorem rboth_c (lf lf2 : Bool) (kv vv kv2 vv2 : Value) (ks vs ks2 vs2 : List Int) (w : World) (hk : RdI kv ks w) (hv : RdI vv vs w) (hk2 : RdI kv2 ks2 w) (hv2 : RdI vv2 vs2 w) :
    Calls Try.prog 37 #[.agg #[.bool lf, kv, vv], .agg #[.bool lf2, kv2, vv2]] w (Ret fun v w' => ∃ u, v = .tuple #[u, .bool (besB lf ks vs lf2 ks2 vs2)] ∧ ResN w.heap.size (bothT lf ks vs lf2 ks2 vs2).1 (bothT lf ks vs lf2 ks2 vs2).2.1 (bothT lf ks vs lf2 ks2 vs2).2.2 u w' ∧ Ext No w w') := by
  have hk0 := hk; have hv0 := hv
  obtain ⟨ka, kc, rfl, hkc, hkm, hc⟩ := hk0.opened
  obtain ⟨va, vc, rfl, hvc, hvm, hd⟩ := hv0.opened
  have hk02 := hk2; have hv02 := hv2
  obtain ⟨ka2, kc2, rfl, hkc2, hkm2, hc2⟩ := hk02.opened
  obtain ⟨va2, vc2, rfl, hvc2, hvm2, hd2⟩ := hv02.opened
  refine enter Try.func37 rfl 82 Try.ntmps37 rfl ?_
  refine k_seq ?_
  refine s_region ?_
  refine s_go rfl rfl rfl (g_box rfl rfl rfl) ?_
  rintro _ w1 ⟨b1, rfl, s1, t1, B1, x1⟩
  refine s_go rfl rfl rfl (g_box rfl rfl rfl) ?_
  rintro _ w2 ⟨b2, rfl, s2, t2, B2, x2⟩
  refine s_go rfl rfl rfl (g_alloc (P := Try.prog) rfl (zs := [.bool false, .slice none 0 0, .slice none 0 0]) (by kernel_rfl)) ?_
  rintro _ w3 ⟨b3, rfl, s3, t3, B3, x3⟩
  refine s_do rfl rfl rfl (d_assign rfl rfl) ?_
  refine s_end ?_
  refine k_seq ?_
  refine s_region ?_
  refine s_do rfl rfl rfl (d_loadAgg rfl rfl (vs := [.bool lf, .slice ka ks.length kc, .slice va vs.length vc]) (by kernel_rfl) (here (((B1.ext0 x2).ext0 x3).part 0 3 _ rfl))) ?_
  refine s_call rfl rfl rfl rfl rfl (fun w => Try.call11 _ w) (may_c lf _ _ ks vs _ (((hk.ext0 x1).ext0 x2).ext0 x3) (((hv.ext0 x1).ext0 x2).ext0 x3)) ?_
  rintro _ w4 ⟨rfl, x4⟩
  have m4 := x4.size
  refine s_do rfl rfl rfl (d_assign rfl rfl) ?_
  refine s_end ?_
  refine k_seq ?_
  refine s_region ?_
  refine s_do rfl rfl rfl (d_loadAgg rfl rfl (vs := [.bool lf2, .slice ka2 ks2.length kc2, .slice va2 vs2.length vc2]) (by kernel_rfl) (here (((B2.ext0 x3).ext0 x4).part 0 3 _ rfl))) ?_
  refine s_call rfl rfl rfl rfl rfl (fun w => Try.call11 _ w) (may_c lf2 _ _ ks2 vs2 _ ((((hk2.ext0 x1).ext0 x2).ext0 x3).ext0 x4) ((((hv2.ext0 x1).ext0 x2).ext0 x3).ext0 x4)) ?_
  rintro _ w5 ⟨rfl, x5⟩
  have m5 := x5.size
  refine s_do rfl rfl rfl (d_assign rfl rfl) ?_
  refine s_end ?_
  refine k_seq ?_
  refine k_seq ?_
  refine s_region ?_
  refine s_do rfl rfl rfl (d_move rfl rfl) ?_
  refine s_do rfl rfl rfl (d_not rfl rfl) ?_
  refine s_do rfl rfl rfl (d_move rfl rfl) ?_
  refine s_part_b 16 rfl (fun h1 => ?_) (fun h1 => ?_)
  · -- yes: (!okB lf ks vs)
    have hok : okB lf ks vs = false := by simpa using h1
    refine s_skip rfl rfl rfl ?_
    refine s_skip rfl rfl rfl ?_
    refine s_do rfl rfl rfl (d_pick_t rfl rfl rfl) ?_
    refine s_do rfl rfl rfl (d_move rfl rfl) ?_
    refine s_skip rfl rfl rfl ?_
    refine s_skip rfl rfl rfl ?_
    refine s_skip rfl rfl rfl ?_
    refine s_skip rfl rfl rfl ?_
    refine s_skip rfl rfl rfl ?_
    refine s_do rfl rfl rfl (d_pick_t rfl rfl rfl) ?_
    refine s_end ?_
    refine k_true rfl ?_
    refine k_seq ?_
    refine s_region ?_
    refine s_do rfl rfl rfl (d_build rfl rfl (out := [.bool false, .slice none 0 0, .slice none 0 0]) (by kernel_rfl)) ?_
    refine s_put rfl rfl (p_store rfl rfl rfl (vs := [.bool false, .slice none 0 0, .slice none 0 0]) rfl (by simp [Value.oneCell']) (by kernel_rfl) (((B3.ext0 x4).ext0 x5)) (by simp) (out := [.bool false, .slice none 0 0, .slice none 0 0]) rfl) ?_
    rintro w6 ⟨B6, x6, t6⟩
    refine s_do rfl rfl rfl (d_assign rfl rfl) ?_
    refine s_end ?_
    refine k_ret ?_
    refine doneL rfl [.agg #[.bool false, .slice none 0 0, .slice none 0 0], .bool false] ⟨⟨_, _, rfl, run_loadBlk (by kernel_rfl) (B6) (vs := [.bool false, .slice none 0 0, .slice none 0 0]) rfl⟩, ⟨rfl, trivial⟩⟩ (v := .tuple #[.agg #[.bool false, .slice none 0 0, .slice none 0 0], .bool false]) rfl ?_
    have X := (((((((Ext.refl No w).trans x1).trans x2).trans x3).trans x4).trans x5).trans_new x6 (fun i hi => by subst hi; omega))
    have hb : besB lf ks vs lf2 ks2 vs2 = false := bes_f (fun ⟨a1, a2, a3, a4⟩ => by first | (rw [hok] at a1; cases a1; done) | (rw [hok2] at a2; cases a2; done) | exact h3 a3 | exact ends_no q5 hx hy (by omega) a4)
    refine ⟨_, by rw [hb], ?_, X⟩
    rw [bothT, if_neg (by rw [hb]; simp)]
    exact (ResN.zero _ _)
  · -- no: (!okB lf ks vs)
    have hok : okB lf ks vs = true := by simpa using h1
    obtain ⟨p1, p2, p3, p4, p5⟩ := okB_ok hok
    refine s_do rfl rfl rfl (d_move rfl rfl) ?_
    refine s_do rfl rfl rfl (d_not rfl rfl) ?_
    refine s_do rfl rfl rfl (d_pick_f rfl rfl rfl) ?_
    refine s_do rfl rfl rfl (d_move rfl rfl) ?_
    refine s_part_b 20 rfl (fun h2 => ?_) (fun h2 => ?_)
    · -- yes: (!okB lf2 ks2 vs2)
      have hok2 : okB lf2 ks2 vs2 = false := by simpa using h2
      refine s_skip rfl rfl rfl ?_
      refine s_skip rfl rfl rfl ?_
      refine s_skip rfl rfl rfl ?_
      refine s_skip rfl rfl rfl ?_
      refine s_skip rfl rfl rfl ?_
      refine s_do rfl rfl rfl (d_pick_t rfl rfl rfl) ?_
      refine s_end ?_
      refine k_true rfl ?_
      refine k_seq ?_
      refine s_region ?_
      refine s_do rfl rfl rfl (d_build rfl rfl (out := [.bool false, .slice none 0 0, .slice none 0 0]) (by kernel_rfl)) ?_
      refine s_put rfl rfl (p_store rfl rfl rfl (vs := [.bool false, .slice none 0 0, .slice none 0 0]) rfl (by simp [Value.oneCell']) (by kernel_rfl) (((B3.ext0 x4).ext0 x5)) (by simp) (out := [.bool false, .slice none 0 0, .slice none 0 0]) rfl) ?_
      rintro w7 ⟨B7, x7, t7⟩
      refine s_do rfl rfl rfl (d_assign rfl rfl) ?_
      refine s_end ?_
      refine k_ret ?_
      refine doneL rfl [.agg #[.bool false, .slice none 0 0, .slice none 0 0], .bool false] ⟨⟨_, _, rfl, run_loadBlk (by kernel_rfl) (B7) (vs := [.bool false, .slice none 0 0, .slice none 0 0]) rfl⟩, ⟨rfl, trivial⟩⟩ (v := .tuple #[.agg #[.bool false, .slice none 0 0, .slice none 0 0], .bool false]) rfl ?_
      have X := (((((((Ext.refl No w).trans x1).trans x2).trans x3).trans x4).trans x5).trans_new x7 (fun i hi => by subst hi; omega))
      have hb : besB lf ks vs lf2 ks2 vs2 = false := bes_f (fun ⟨a1, a2, a3, a4⟩ => by first | (rw [hok] at a1; cases a1; done) | (rw [hok2] at a2; cases a2; done) | exact h3 a3 | exact ends_no q5 hx hy (by omega) a4)
      refine ⟨_, by rw [hb], ?_, X⟩
      rw [bothT, if_neg (by rw [hb]; simp)]
      exact (ResN.zero _ _)
    · -- no: (!okB lf2 ks2 vs2)
      have hok2 : okB lf2 ks2 vs2 = true := by simpa using h2
      obtain ⟨q1, q2, q3, q4, q5⟩ := okB_ok hok2
      refine s_do rfl rfl rfl (d_field rfl (k := 0) (r := 0) (by kernel_rfl) rfl rfl) ?_
      refine s_do rfl rfl rfl (d_load rfl rfl (by kernel_rfl) (here (((((B1.ext0 x2).ext0 x3).ext0 x4).ext0 x5).cel 0 rfl))) ?_
      refine s_do rfl rfl rfl (d_field rfl (k := 0) (r := 0) (by kernel_rfl) rfl rfl) ?_
      refine s_do rfl rfl rfl (d_load rfl rfl (by kernel_rfl) (here ((((B2.ext0 x3).ext0 x4).ext0 x5).cel 0 rfl))) ?_
      refine s_do rfl rfl rfl (d_neqB rfl (by kernel_rfl) rfl rfl) ?_
      refine s_do rfl rfl rfl (d_pick_f rfl rfl rfl) ?_
      refine s_end ?_
      refine k_dec rfl (fun h3 => ?_) (fun h3 => ?_)
      · -- yes: lf ≠ lf2
        refine k_seq ?_
        refine s_region ?_
        refine s_do rfl rfl rfl (d_build rfl rfl (out := [.bool false, .slice none 0 0, .slice none 0 0]) (by kernel_rfl)) ?_
        refine s_put rfl rfl (p_store rfl rfl rfl (vs := [.bool false, .slice none 0 0, .slice none 0 0]) rfl (by simp [Value.oneCell']) (by kernel_rfl) (((B3.ext0 x4).ext0 x5)) (by simp) (out := [.bool false, .slice none 0 0, .slice none 0 0]) rfl) ?_
        rintro w8 ⟨B8, x8, t8⟩
        refine s_do rfl rfl rfl (d_assign rfl rfl) ?_
        refine s_end ?_
        refine k_ret ?_
        refine doneL rfl [.agg #[.bool false, .slice none 0 0, .slice none 0 0], .bool false] ⟨⟨_, _, rfl, run_loadBlk (by kernel_rfl) (B8) (vs := [.bool false, .slice none 0 0, .slice none 0 0]) rfl⟩, ⟨rfl, trivial⟩⟩ (v := .tuple #[.agg #[.bool false, .slice none 0 0, .slice none 0 0], .bool false]) rfl ?_
        have X := (((((((Ext.refl No w).trans x1).trans x2).trans x3).trans x4).trans x5).trans_new x8 (fun i hi => by subst hi; omega))
        have hb : besB lf ks vs lf2 ks2 vs2 = false := bes_f (fun ⟨a1, a2, a3, a4⟩ => by first | (rw [hok] at a1; cases a1; done) | (rw [hok2] at a2; cases a2; done) | exact h3 a3 | exact ends_no q5 hx hy (by omega) a4)
        refine ⟨_, by rw [hb], ?_, X⟩
        rw [bothT, if_neg (by rw [hb]; simp)]
        exact (ResN.zero _ _)
      · -- no: lf ≠ lf2
        refine k_skip ?_
        refine k_seq ?_
        refine s_region ?_
        refine s_do rfl rfl rfl (d_loadAgg rfl rfl (vs := [.bool lf, .slice ka ks.length kc, .slice va vs.length vc]) (by kernel_rfl) (here (((((B1.ext0 x2).ext0 x3).ext0 x4).ext0 x5).part 0 3 _ rfl))) ?_
        refine s_do rfl rfl rfl (d_field rfl (k := 1) (r := 1) (by kernel_rfl) rfl rfl) ?_
        refine s_do rfl rfl rfl (d_load rfl rfl (by kernel_rfl) (here (((((B1.ext0 x2).ext0 x3).ext0 x4).ext0 x5).cel 1 rfl))) ?_
        refine s_do rfl rfl rfl (d_len rfl (z := 1) (by kernel_rfl) rfl) ?_
        refine s_call rfl rfl rfl rfl rfl (fun w => Try.call33 _ w) (castN (from_c _ _ _ ks vs 0 ks.length _ _ _ (by simp) (by simp) (((((hk.ext0 x1).ext0 x2).ext0 x3).ext0 x4).ext0 x5) (((((hv.ext0 x1).ext0 x2).ext0 x3).ext0 x4).ext0 x5) (by first | omega | (simp <;> omega)) (by first | omega | (simp <;> omega)) (by first | omega | (simp <;> omega)) (by first | omega | (simp <;> omega)) (by first | omega | (simp <;> omega))) (ks' := ks) (vs' := vs) (by simp) (by simp [p1])) ?_
        rintro _ w9 ⟨⟨ga9, ca9, gb9, cb9, rfl, Oa9, Ob9, Ap9⟩, x9⟩
        have m9 := x9.size
        refine s_go rfl rfl rfl (g_alloc (P := Try.prog) rfl (zs := [.bool false, .slice none 0 0, .slice none 0 0]) (by kernel_rfl)) ?_
        rintro _ w10 ⟨b10, rfl, s10, t10, B10, x10⟩
        refine s_put rfl rfl (p_store rfl rfl rfl (vs := [.bool lf, .slice ga9 ((ks).length) ca9, .slice gb9 ((vs).length) cb9]) rfl (by simp [Value.oneCell']) (by kernel_rfl) (B10) (by simp) (out := [.bool lf, .slice ga9 ((ks).length) ca9, .slice gb9 ((vs).length) cb9]) rfl) ?_
        rintro w11 ⟨B11, x11, t11⟩
        refine s_end ?_
        refine k_seq ?_
        refine k_seq ?_
        refine s_region ?_
        refine s_do rfl rfl rfl (d_assign rfl rfl) ?_
        refine s_end ?_
        refine k_block ?_
        refine c_loop (σ := Nat) (fun k => [(9, .int .i64 (k : Int)), (3, .pointer (some ⟨b2, 0, none⟩)), (4, .pointer (some ⟨b3, 0, none⟩)), (8, .pointer (some ⟨b10, 0, none⟩))])
          (fun k wr => Ext No w wr ∧ Blk b1 [.bool lf, .slice ka ks.length kc, .slice va vs.length vc] 24 wr ∧ Blk b2 [.bool lf2, .slice ka2 ks2.length kc2, .slice va2 vs2.length vc2] 24 wr ∧ Blk b3 [.bool false, .slice none 0 0, .slice none 0 0] 24 wr ∧ (k ≤ ks2.length ∧ (0 < k → Ends ks ks2) ∧ ∃ g c g2 c2, Blk b10 [.bool lf, .slice g (ks ++ ks2.take k).length c, .slice g2 (vs ++ vs2.take k).length c2] 24 wr ∧ OwnI 3 w5.heap.size (.slice g (ks ++ ks2.take k).length c) (ks ++ ks2.take k) wr ∧ OwnI 3 w5.heap.size (.slice g2 (vs ++ vs2.take k).length c2) (vs ++ vs2.take k) wr ∧ Apart (.slice g (ks ++ ks2.take k).length c) (.slice g2 (vs ++ vs2.take k).length c2) ∧ Value.ownBlock (.slice g (ks ++ ks2.take k).length c) ≠ some b10 ∧ Value.ownBlock (.slice g2 (vs ++ vs2.take k).length c2) ≠ some b10)) (fun k => ks2.length - k) 0
          (fun _ hF => (hF.cons (hF.cons (hF.cons (hF.cons hF.nil 8 _ _ rfl rfl) 4 _ _ rfl rfl) 3 _ _ rfl rfl) 9 _ _ rfl (by go_num))) ⟨(((((((((Ext.refl No w).trans x1).trans x2).trans x3).trans x4).trans x5).trans x9).trans x10).trans_new x11 (fun i hi => by subst hi; omega)), (((((((B1.ext0 x2).ext0 x3).ext0 x4).ext0 x5).ext0 x9).ext0 x10).ext x11 (show ¬ (b1 = b10) by omega)), ((((((B2.ext0 x3).ext0 x4).ext0 x5).ext0 x9).ext0 x10).ext x11 (show ¬ (b2 = b10) by omega)), (((((B3.ext0 x4).ext0 x5).ext0 x9).ext0 x10).ext x11 (show ¬ (b3 = b10) by omega)), by omega, fun q => by omega, _, _, _, _, by simpa using B11, by simpa using ((Oa9.ext0 x10).extb x11 (own_ne Oa9 (by omega))).base (by omega), by simpa using ((Ob9.ext0 x10).extb x11 (own_ne Ob9 (by omega))).base (by omega), by simpa using Ap9, by simpa using (own_ne Oa9 (by omega)), by simpa using (own_ne Ob9 (by omega))⟩ ?_
        rintro k wr12 ⟨x12, B1r12, B2r12, B3r12, hI⟩
        have m12 := x12.size
        have lB1r12 := B1r12.lt
        have lB2r12 := B2r12.lt
        have lB3r12 := B3r12.lt
        obtain ⟨hkq, hends, g, c, g2, c2, Bb, Oa, Ob, Ap, Na, Nb⟩ := hI
        have lBb := Bb.lt
        have le1 : (ks ++ ks2.take k).length ≤ 16 := by simp; omega
        have le2 : (vs ++ vs2.take k).length ≤ 16 := by simp; omega
        refine k_seq ?_
        refine k_seq ?_
        refine s_region ?_
        refine s_do rfl rfl rfl (d_move rfl rfl) ?_
        refine s_do rfl rfl rfl (d_field rfl (k := 1) (r := 1) (by kernel_rfl) rfl rfl) ?_
        refine s_do rfl rfl rfl (d_load rfl rfl (by kernel_rfl) (here (B2r12.cel 1 rfl))) ?_
        refine s_do rfl rfl rfl (d_len rfl (z := 1) (by kernel_rfl) rfl) ?_
        refine s_do rfl rfl rfl (d_lss rfl rfl rfl) ?_
        refine s_end ?_
        refine k_dec rfl (fun h4 => ?_) (fun h4 => ?_)
        · -- yes: (k : Int) < (ks2.length : Int)
          refine k_skip ?_
          refine k_seq ?_
          refine k_block ?_
          refine k_seq ?_
          refine k_seq ?_
          refine q_region (Ext No wr12) (by kernel_rfl) (by kernel_rfl) ((Ext.refl _ _).drew) ?_
          refine q_do rfl rfl rfl (d_field rfl (k := 1) (r := 1) (by kernel_rfl) rfl rfl) ?_
          refine q_do rfl rfl rfl (d_load rfl rfl (by kernel_rfl) (fun _ hx => (Bb.ext0 hx).cel 1 rfl)) ?_
          refine q_do rfl rfl rfl (d_len rfl (z := 1) (by kernel_rfl) rfl) ?_
          refine q_do rfl rfl rfl (d_gtr rfl rfl rfl) ?_
          refine q_do rfl rfl rfl (d_move rfl rfl) ?_
          refine q_part 44 rfl (fun h5 => ?_) (fun h5 => ?_)
          · -- yes: (0 : Int) < ((ks ++ ks2.take k).length : Int)
            refine q_do rfl rfl rfl (d_field rfl (k := 1) (r := 1) (by kernel_rfl) rfl rfl) ?_
            refine q_do rfl rfl rfl (d_load rfl rfl (by kernel_rfl) (fun _ hx => (Bb.ext0 hx).cel 1 rfl)) ?_
            refine q_do rfl rfl rfl (d_field rfl (k := 1) (r := 1) (by kernel_rfl) rfl rfl) ?_
            refine q_do rfl rfl rfl (d_load rfl rfl (by kernel_rfl) (fun _ hx => (Bb.ext0 hx).cel 1 rfl)) ?_
            refine q_do rfl rfl rfl (d_len rfl (z := 1) (by kernel_rfl) rfl) ?_
            refine q_do rfl rfl rfl (d_sub64 rfl rfl rfl (r := ((ks ++ ks2.take k).length : Int) - 1) (by omega) (by omega)) ?_
            obtain ⟨x, hx⟩ : ∃ x, (ks ++ ks2.take k)[(ks ++ ks2.take k).length - 1]? = some x := ⟨_, List.getElem?_eq_getElem (by omega)⟩
            have hat := RdI.get Oa.rd hx
            refine q_do rfl rfl rfl (d_indexE rfl (z := 1) (j := (ks ++ ks2.take k).length - 1) (r := (ks ++ ks2.take k).length - 1) (by kernel_rfl) rfl rfl (by omega) (by omega) hat (by omega)) ?_
            refine q_do rfl rfl rfl (d_loadE rfl rfl (by kernel_rfl) (fun _ hx => (hat.ext0 hx))) ?_
            refine q_do rfl rfl rfl (d_field rfl (k := 1) (r := 1) (by kernel_rfl) rfl rfl) ?_
            refine q_do rfl rfl rfl (d_load rfl rfl (by kernel_rfl) (fun _ hx => (B2r12.ext0 hx).cel 1 rfl)) ?_
            refine q_do rfl rfl rfl (d_move rfl rfl) ?_
            obtain ⟨y, hy⟩ : ∃ x, ks2[k]? = some x := ⟨_, List.getElem?_eq_getElem (by omega)⟩
            have hbt := hc2 _ _ hy
            refine q_do rfl rfl rfl (d_indexE rfl (z := 1) (j := k) (r := k) (by kernel_rfl) rfl rfl rfl (by omega) hbt (by omega)) ?_
            refine q_do rfl rfl rfl (d_loadE rfl rfl (by kernel_rfl) (fun _ hx => ((hbt.ext0 x12).ext0 hx))) ?_
            refine q_do rfl rfl rfl (d_geq rfl rfl rfl) ?_
            refine q_do rfl rfl rfl (d_pick_t rfl rfl rfl) ?_
            refine q_end (fun w13 x13 => ?_)
            have m13 := x13.size
            refine k_dec rfl (fun h6 => ?_) (fun h6 => ?_)
            · -- yes: (y : Int) ≤ x
              refine k_seq ?_
              refine s_region ?_
              refine s_do rfl rfl rfl (d_build rfl rfl (out := [.bool false, .slice none 0 0, .slice none 0 0]) (by kernel_rfl)) ?_
              refine s_put rfl rfl (p_store rfl rfl rfl (vs := [.bool false, .slice none 0 0, .slice none 0 0]) rfl (by simp [Value.oneCell']) (by kernel_rfl) ((B3r12.ext0 x13)) (by simp) (out := [.bool false, .slice none 0 0, .slice none 0 0]) rfl) ?_
              rintro w14 ⟨B14, x14, t14⟩
              refine s_do rfl rfl rfl (d_assign rfl rfl) ?_
              refine s_end ?_
              refine k_ret ?_
              refine doneL rfl [.agg #[.bool false, .slice none 0 0, .slice none 0 0], .bool false] ⟨⟨_, _, rfl, run_loadBlk (by kernel_rfl) (B14) (vs := [.bool false, .slice none 0 0, .slice none 0 0]) rfl⟩, ⟨rfl, trivial⟩⟩ (v := .tuple #[.agg #[.bool false, .slice none 0 0, .slice none 0 0], .bool false]) rfl ?_
              have X := ((((Ext.refl No w).trans x12).trans x13).trans_new x14 (fun i hi => by subst hi; omega))
              have hb : besB lf ks vs lf2 ks2 vs2 = false := bes_f (fun ⟨a1, a2, a3, a4⟩ => by first | (rw [hok] at a1; cases a1; done) | (rw [hok2] at a2; cases a2; done) | exact h3 a3 | exact ends_no q5 hx hy (by omega) a4)
              refine ⟨_, by rw [hb], ?_, X⟩
              rw [bothT, if_neg (by rw [hb]; simp)]
              exact (ResN.zero _ _)
            · -- no: (y : Int) ≤ x
              have hstep : Ends ks ks2 := ends_step hends hx hy (by omega)
              refine k_skip ?_
              refine k_seq ?_
              have f15 := (Oa.ext0 x13)
              refine l_region (Ext (fun i => (Value.slice g ((ks ++ ks2.take k).length) c).ownBlock = some i) w13) 11 rfl (by kernel_rfl) (fun w15 x15 z15 => ?_)
              refine l_do 0 (by kernel_rfl) rfl rfl (by kernel_rfl) (by kernel_rfl) (by kernel_rfl) rfl rfl rfl (d_field rfl (k := 1) (r := 1) (by kernel_rfl) rfl rfl) ((Ext.refl (fun i => (Value.slice g ((ks ++ ks2.take k).length) c).ownBlock = some i) w13).trans x15.no) ?_
              refine l_do 1 (by kernel_rfl) rfl rfl (by kernel_rfl) (by kernel_rfl) (by kernel_rfl) rfl rfl rfl (d_load rfl rfl (by kernel_rfl) (fun _ hx => ((Bb.ext0 x13).extO hx Na).cel 1 rfl)) ((Ext.refl (fun i => (Value.slice g ((ks ++ ks2.take k).length) c).ownBlock = some i) w13).trans x15.no) ?_
              refine l_do 2 (by kernel_rfl) rfl rfl (by kernel_rfl) (by kernel_rfl) (by kernel_rfl) rfl rfl rfl (d_field rfl (k := 1) (r := 1) (by kernel_rfl) rfl rfl) ((Ext.refl (fun i => (Value.slice g ((ks ++ ks2.take k).length) c).ownBlock = some i) w13).trans x15.no) ?_
              refine l_do 3 (by kernel_rfl) rfl rfl (by kernel_rfl) (by kernel_rfl) (by kernel_rfl) rfl rfl rfl (d_load rfl rfl (by kernel_rfl) (fun _ hx => ((B2r12.ext0 x13).extO hx (own_ne Oa (by omega))).cel 1 rfl)) ((Ext.refl (fun i => (Value.slice g ((ks ++ ks2.take k).length) c).ownBlock = some i) w13).trans x15.no) ?_
              refine l_do 4 (by kernel_rfl) rfl rfl (by kernel_rfl) (by kernel_rfl) (by kernel_rfl) rfl rfl rfl (d_move rfl rfl) ((Ext.refl (fun i => (Value.slice g ((ks ++ ks2.take k).length) c).ownBlock = some i) w13).trans x15.no) ?_
              obtain ⟨y, hy⟩ : ∃ x, ks2[k]? = some x := ⟨_, List.getElem?_eq_getElem (by omega)⟩
              have hbt := hc2 _ _ hy
              refine l_do 5 (by kernel_rfl) rfl rfl (by kernel_rfl) (by kernel_rfl) (by kernel_rfl) rfl rfl rfl (d_indexE rfl (z := 1) (j := k) (r := k) (by kernel_rfl) rfl rfl rfl (by omega) hbt (by omega)) ((Ext.refl (fun i => (Value.slice g ((ks ++ ks2.take k).length) c).ownBlock = some i) w13).trans x15.no) ?_
              refine l_do 6 (by kernel_rfl) rfl rfl (by kernel_rfl) (by kernel_rfl) (by kernel_rfl) rfl rfl rfl (d_loadE rfl rfl (by kernel_rfl) (fun _ hx => hbt.ext0 ((((Ext.refl No w).trans x12).trans x13).transO hx f15 (by omega)))) ((Ext.refl (fun i => (Value.slice g ((ks ++ ks2.take k).length) c).ownBlock = some i) w13).trans x15.no) ?_
              refine l_all [7] (by kernel_rfl) (by simp) ?_
              refine all1 ?_
              refine o_go rfl rfl rfl rfl (g_oneI rfl rfl) ?_
              rintro _ w16 ⟨b16, rfl, s16, R16, x16⟩
              have m16 := x16.size
              refine l_and (fun _ => (((Ext.refl (fun i => (Value.slice g ((ks ++ ks2.take k).length) c).ownBlock = some i) w13).trans x15.no).trans x16.no)) ?_
              refine l_all [8] (by kernel_rfl) (by simp) ?_
              refine all1 ?_
              have o17 := (((Oa.ext0 x13).ext0 x15).ext0 x16)
              refine o_go rfl rfl rfl rfl (g_appendI rfl rfl rfl (by simp) o17 R16 (by omega) (by first | omega | (simp <;> omega))) ?_
              rintro _ w17 ⟨g17, c17, rfl, O17, x17, y17⟩
              have m17 := x17.size
              refine l_and (fun _ => ((((Ext.refl (fun i => (Value.slice g ((ks ++ ks2.take k).length) c).ownBlock = some i) w13).trans x15.no).trans x16.no).trans x17)) ?_
              refine l_do 9 (by kernel_rfl) rfl rfl (by kernel_rfl) (by kernel_rfl) (by kernel_rfl) rfl rfl rfl (d_field rfl (k := 1) (r := 1) (by kernel_rfl) rfl rfl) ((((Ext.refl (fun i => (Value.slice g ((ks ++ ks2.take k).length) c).ownBlock = some i) w13).trans x15.no).trans x16.no).trans x17) ?_
              refine l_all [10] (by kernel_rfl) (by simp) ?_
              refine all1 ?_
              refine o_put rfl rfl rfl (p_store rfl rfl rfl (vs := [.slice g17 (((ks ++ ks2.take k) ++ ([y])).length) c17]) rfl (by simp [Value.oneCell']) (by kernel_rfl) (((((Bb.ext0 x13).ext0 x15).ext0 x16).extO x17 Na)) (by simp) (out := [.bool lf, .slice g17 (((ks ++ ks2.take k) ++ ([y])).length) c17, .slice g2 ((vs ++ vs2.take k).length) c2]) rfl) ?_
              rintro w18 ⟨B18, x18, t18⟩
              refine l_and (fun h => absurd rfl h) ?_
              refine l_done (by kernel_rfl) ?_
              have f19 := (((((Ob.ext0 x13).ext0 x15).ext0 x16).extO x17 Ap).extb x18 Nb)
              refine l_region (Ext (fun i => (Value.slice g2 ((vs ++ vs2.take k).length) c2).ownBlock = some i) w18) 11 rfl (by kernel_rfl) (fun w19 x19 z19 => ?_)
              refine l_do 0 (by kernel_rfl) rfl rfl (by kernel_rfl) (by kernel_rfl) (by kernel_rfl) rfl rfl rfl (d_field rfl (k := 2) (r := 2) (by kernel_rfl) rfl rfl) ((Ext.refl (fun i => (Value.slice g2 ((vs ++ vs2.take k).length) c2).ownBlock = some i) w18).trans x19.no) ?_
              refine l_do 1 (by kernel_rfl) rfl rfl (by kernel_rfl) (by kernel_rfl) (by kernel_rfl) rfl rfl rfl (d_load rfl rfl (by kernel_rfl) (fun _ hx => (B18.extO hx Nb).cel 2 rfl)) ((Ext.refl (fun i => (Value.slice g2 ((vs ++ vs2.take k).length) c2).ownBlock = some i) w18).trans x19.no) ?_
              refine l_do 2 (by kernel_rfl) rfl rfl (by kernel_rfl) (by kernel_rfl) (by kernel_rfl) rfl rfl rfl (d_field rfl (k := 2) (r := 2) (by kernel_rfl) rfl rfl) ((Ext.refl (fun i => (Value.slice g2 ((vs ++ vs2.take k).length) c2).ownBlock = some i) w18).trans x19.no) ?_
              refine l_do 3 (by kernel_rfl) rfl rfl (by kernel_rfl) (by kernel_rfl) (by kernel_rfl) rfl rfl rfl (d_load rfl rfl (by kernel_rfl) (fun _ hx => ((((((B2r12.ext0 x13).ext0 x15).ext0 x16).extO x17 (own_ne Oa (by omega))).ext x18 (show ¬ (b2 = b10) by omega)).extO hx (own_ne Ob (by omega))).cel 2 rfl)) ((Ext.refl (fun i => (Value.slice g2 ((vs ++ vs2.take k).length) c2).ownBlock = some i) w18).trans x19.no) ?_
              refine l_do 4 (by kernel_rfl) rfl rfl (by kernel_rfl) (by kernel_rfl) (by kernel_rfl) rfl rfl rfl (d_move rfl rfl) ((Ext.refl (fun i => (Value.slice g2 ((vs ++ vs2.take k).length) c2).ownBlock = some i) w18).trans x19.no) ?_
              obtain ⟨z, hz⟩ : ∃ x, vs2[k]? = some x := ⟨_, List.getElem?_eq_getElem (by omega)⟩
              have hct := hd2 _ _ hz
              refine l_do 5 (by kernel_rfl) rfl rfl (by kernel_rfl) (by kernel_rfl) (by kernel_rfl) rfl rfl rfl (d_indexE rfl (z := 1) (j := k) (r := k) (by kernel_rfl) rfl rfl rfl (by omega) hct (by omega)) ((Ext.refl (fun i => (Value.slice g2 ((vs ++ vs2.take k).length) c2).ownBlock = some i) w18).trans x19.no) ?_
              refine l_do 6 (by kernel_rfl) rfl rfl (by kernel_rfl) (by kernel_rfl) (by kernel_rfl) rfl rfl rfl (d_loadE rfl rfl (by kernel_rfl) (fun _ hx => hct.ext0 ((((((((Ext.refl No w).trans x12).trans x13).trans x15).trans x16).transO x17 o17 (by omega)).trans_new x18 (fun i hi => by subst hi; omega)).transO hx f19 (by omega)))) ((Ext.refl (fun i => (Value.slice g2 ((vs ++ vs2.take k).length) c2).ownBlock = some i) w18).trans x19.no) ?_
              refine l_all [7] (by kernel_rfl) (by simp) ?_
              refine all1 ?_
              refine o_go rfl rfl rfl rfl (g_oneI rfl rfl) ?_
              rintro _ w20 ⟨b20, rfl, s20, R20, x20⟩
              have m20 := x20.size
              refine l_and (fun _ => (((Ext.refl (fun i => (Value.slice g2 ((vs ++ vs2.take k).length) c2).ownBlock = some i) w18).trans x19.no).trans x20.no)) ?_
              refine l_all [8] (by kernel_rfl) (by simp) ?_
              refine all1 ?_
              have o21 := (((((((Ob.ext0 x13).ext0 x15).ext0 x16).extO x17 Ap).extb x18 Nb).ext0 x19).ext0 x20)
              refine o_go rfl rfl rfl rfl (g_appendI rfl rfl rfl (by simp) o21 R20 (by omega) (by first | omega | (simp <;> omega))) ?_
              rintro _ w21 ⟨g21, c21, rfl, O21, x21, y21⟩
              have m21 := x21.size
              refine l_and (fun _ => ((((Ext.refl (fun i => (Value.slice g2 ((vs ++ vs2.take k).length) c2).ownBlock = some i) w18).trans x19.no).trans x20.no).trans x21)) ?_
              refine l_do 9 (by kernel_rfl) rfl rfl (by kernel_rfl) (by kernel_rfl) (by kernel_rfl) rfl rfl rfl (d_field rfl (k := 2) (r := 2) (by kernel_rfl) rfl rfl) ((((Ext.refl (fun i => (Value.slice g2 ((vs ++ vs2.take k).length) c2).ownBlock = some i) w18).trans x19.no).trans x20.no).trans x21) ?_
              refine l_all [10] (by kernel_rfl) (by simp) ?_
              refine all1 ?_
              refine o_put rfl rfl rfl (p_store rfl rfl rfl (vs := [.slice g21 (((vs ++ vs2.take k) ++ ([z])).length) c21]) rfl (by simp [Value.oneCell']) (by kernel_rfl) ((((B18.ext0 x19).ext0 x20).extO x21 Nb)) (by simp) (out := [.bool lf, .slice g17 (((ks ++ ks2.take k) ++ ([y])).length) c17, .slice g21 (((vs ++ vs2.take k) ++ ([z])).length) c21]) rfl) ?_
              rintro w22 ⟨B22, x22, t22⟩
              refine l_and (fun h => absurd rfl h) ?_
              refine l_done (by kernel_rfl) ?_
              refine s_region ?_
              refine s_do rfl rfl rfl (d_move rfl rfl) ?_
              refine s_do rfl rfl rfl (d_add64 rfl rfl rfl (r := (k : Int) + 1) (by omega) (by omega)) ?_
              refine s_do rfl rfl rfl (d_assign rfl rfl) ?_
              refine s_end ?_
              intro _ hF
              refine ⟨(k + 1), (hF.cons (hF.cons (hF.cons (hF.cons hF.nil 8 _ _ rfl rfl) 4 _ _ rfl rfl) 3 _ _ rfl rfl) 9 _ _ rfl (by go_num)), ⟨(((((((((x12.trans x13).trans x15).trans x16).transO x17 o17 (by omega)).trans_new x18 (fun i hi => by subst hi; omega)).trans x19).trans x20).transO x21 o21 (by omega)).trans_new x22 (fun i hi => by subst hi; omega)), (((((((((B1r12.ext0 x13).ext0 x15).ext0 x16).extO x17 (own_ne Oa (by omega))).ext x18 (show ¬ (b1 = b10) by omega)).ext0 x19).ext0 x20).extO x21 (own_ne Ob (by omega))).ext x22 (show ¬ (b1 = b10) by omega)), (((((((((B2r12.ext0 x13).ext0 x15).ext0 x16).extO x17 (own_ne Oa (by omega))).ext x18 (show ¬ (b2 = b10) by omega)).ext0 x19).ext0 x20).extO x21 (own_ne Ob (by omega))).ext x22 (show ¬ (b2 = b10) by omega)), (((((((((B3r12.ext0 x13).ext0 x15).ext0 x16).extO x17 (own_ne Oa (by omega))).ext x18 (show ¬ (b3 = b10) by omega)).ext0 x19).ext0 x20).extO x21 (own_ne Ob (by omega))).ext x22 (show ¬ (b3 = b10) by omega)), ?_⟩, ?_⟩
              · have e1 : (ks ++ ks2.take k) ++ [y] = ks ++ ks2.take (k + 1) := by rw [List.take_add_one, hy, List.append_assoc]; rfl
                have e2 : (vs ++ vs2.take k) ++ [z] = vs ++ vs2.take (k + 1) := by rw [List.take_add_one, hz, List.append_assoc]; rfl
                rw [← e1, ← e2]
                exact ⟨by omega, fun _ => hstep, _, _, _, _, B22, (((((O17.extb x18 (ne_grown y17 Na (by omega))).ext0 x19).ext0 x20).extO x21 ((apart_grown y17 Ap (((Ob.ext0 x13).ext0 x15).ext0 x16))).symm).extb x22 (ne_grown y17 Na (by omega))), (O21.extb x22 (ne_grown y21 Nb (by omega))), ((apart_grown y21 ((apart_grown y17 Ap (((Ob.ext0 x13).ext0 x15).ext0 x16))).symm (((O17.extb x18 (ne_grown y17 Na (by omega))).ext0 x19).ext0 x20))).symm, (ne_grown y17 Na (by omega)), (ne_grown y21 Nb (by omega))⟩
              · omega
          · -- no: (0 : Int) < ((ks ++ ks2.take k).length : Int)
            have hstep : Ends ks ks2 := ends_nil h5
            refine q_skip rfl rfl rfl ?_
            refine q_skip rfl rfl rfl ?_
            refine q_skip rfl rfl rfl ?_
            refine q_skip rfl rfl rfl ?_
            refine q_skip rfl rfl rfl ?_
            refine q_skip rfl rfl rfl ?_
            refine q_skip rfl rfl rfl ?_
            refine q_skip rfl rfl rfl ?_
            refine q_skip rfl rfl rfl ?_
            refine q_skip rfl rfl rfl ?_
            refine q_skip rfl rfl rfl ?_
            refine q_skip rfl rfl rfl ?_
            refine q_skip rfl rfl rfl ?_
            refine q_skip rfl rfl rfl ?_
            refine q_do rfl rfl rfl (d_pick_f rfl rfl rfl) ?_
            refine q_end (fun w23 x23 => ?_)
            have m23 := x23.size
            refine k_false rfl ?_
            refine k_skip ?_
            refine k_seq ?_
            have f24 := (Oa.ext0 x23)
            refine l_region (Ext (fun i => (Value.slice g ((ks ++ ks2.take k).length) c).ownBlock = some i) w23) 11 rfl (by kernel_rfl) (fun w24 x24 z24 => ?_)
            refine l_do 0 (by kernel_rfl) rfl rfl (by kernel_rfl) (by kernel_rfl) (by kernel_rfl) rfl rfl rfl (d_field rfl (k := 1) (r := 1) (by kernel_rfl) rfl rfl) ((Ext.refl (fun i => (Value.slice g ((ks ++ ks2.take k).length) c).ownBlock = some i) w23).trans x24.no) ?_
            refine l_do 1 (by kernel_rfl) rfl rfl (by kernel_rfl) (by kernel_rfl) (by kernel_rfl) rfl rfl rfl (d_load rfl rfl (by kernel_rfl) (fun _ hx => ((Bb.ext0 x23).extO hx Na).cel 1 rfl)) ((Ext.refl (fun i => (Value.slice g ((ks ++ ks2.take k).length) c).ownBlock = some i) w23).trans x24.no) ?_
            refine l_do 2 (by kernel_rfl) rfl rfl (by kernel_rfl) (by kernel_rfl) (by kernel_rfl) rfl rfl rfl (d_field rfl (k := 1) (r := 1) (by kernel_rfl) rfl rfl) ((Ext.refl (fun i => (Value.slice g ((ks ++ ks2.take k).length) c).ownBlock = some i) w23).trans x24.no) ?_
            refine l_do 3 (by kernel_rfl) rfl rfl (by kernel_rfl) (by kernel_rfl) (by kernel_rfl) rfl rfl rfl (d_load rfl rfl (by kernel_rfl) (fun _ hx => ((B2r12.ext0 x23).extO hx (own_ne Oa (by omega))).cel 1 rfl)) ((Ext.refl (fun i => (Value.slice g ((ks ++ ks2.take k).length) c).ownBlock = some i) w23).trans x24.no) ?_
            refine l_do 4 (by kernel_rfl) rfl rfl (by kernel_rfl) (by kernel_rfl) (by kernel_rfl) rfl rfl rfl (d_move rfl rfl) ((Ext.refl (fun i => (Value.slice g ((ks ++ ks2.take k).length) c).ownBlock = some i) w23).trans x24.no) ?_
            obtain ⟨y, hy⟩ : ∃ x, ks2[k]? = some x := ⟨_, List.getElem?_eq_getElem (by omega)⟩
            have hbt := hc2 _ _ hy
            refine l_do 5 (by kernel_rfl) rfl rfl (by kernel_rfl) (by kernel_rfl) (by kernel_rfl) rfl rfl rfl (d_indexE rfl (z := 1) (j := k) (r := k) (by kernel_rfl) rfl rfl rfl (by omega) hbt (by omega)) ((Ext.refl (fun i => (Value.slice g ((ks ++ ks2.take k).length) c).ownBlock = some i) w23).trans x24.no) ?_
            refine l_do 6 (by kernel_rfl) rfl rfl (by kernel_rfl) (by kernel_rfl) (by kernel_rfl) rfl rfl rfl (d_loadE rfl rfl (by kernel_rfl) (fun _ hx => hbt.ext0 ((((Ext.refl No w).trans x12).trans x23).transO hx f24 (by omega)))) ((Ext.refl (fun i => (Value.slice g ((ks ++ ks2.take k).length) c).ownBlock = some i) w23).trans x24.no) ?_
            refine l_all [7] (by kernel_rfl) (by simp) ?_
            refine all1 ?_
            refine o_go rfl rfl rfl rfl (g_oneI rfl rfl) ?_
            rintro _ w25 ⟨b25, rfl, s25, R25, x25⟩
            have m25 := x25.size
            refine l_and (fun _ => (((Ext.refl (fun i => (Value.slice g ((ks ++ ks2.take k).length) c).ownBlock = some i) w23).trans x24.no).trans x25.no)) ?_
            refine l_all [8] (by kernel_rfl) (by simp) ?_
            refine all1 ?_
            have o26 := (((Oa.ext0 x23).ext0 x24).ext0 x25)
            refine o_go rfl rfl rfl rfl (g_appendI rfl rfl rfl (by simp) o26 R25 (by omega) (by first | omega | (simp <;> omega))) ?_
            rintro _ w26 ⟨g26, c26, rfl, O26, x26, y26⟩
            have m26 := x26.size
            refine l_and (fun _ => ((((Ext.refl (fun i => (Value.slice g ((ks ++ ks2.take k).length) c).ownBlock = some i) w23).trans x24.no).trans x25.no).trans x26)) ?_
            refine l_do 9 (by kernel_rfl) rfl rfl (by kernel_rfl) (by kernel_rfl) (by kernel_rfl) rfl rfl rfl (d_field rfl (k := 1) (r := 1) (by kernel_rfl) rfl rfl) ((((Ext.refl (fun i => (Value.slice g ((ks ++ ks2.take k).length) c).ownBlock = some i) w23).trans x24.no).trans x25.no).trans x26) ?_
            refine l_all [10] (by kernel_rfl) (by simp) ?_
            refine all1 ?_
            refine o_put rfl rfl rfl (p_store rfl rfl rfl (vs := [.slice g26 (((ks ++ ks2.take k) ++ ([y])).length) c26]) rfl (by simp [Value.oneCell']) (by kernel_rfl) (((((Bb.ext0 x23).ext0 x24).ext0 x25).extO x26 Na)) (by simp) (out := [.bool lf, .slice g26 (((ks ++ ks2.take k) ++ ([y])).length) c26, .slice g2 ((vs ++ vs2.take k).length) c2]) rfl) ?_
            rintro w27 ⟨B27, x27, t27⟩
            refine l_and (fun h => absurd rfl h) ?_
            refine l_done (by kernel_rfl) ?_
            have f28 := (((((Ob.ext0 x23).ext0 x24).ext0 x25).extO x26 Ap).extb x27 Nb)
            refine l_region (Ext (fun i => (Value.slice g2 ((vs ++ vs2.take k).length) c2).ownBlock = some i) w27) 11 rfl (by kernel_rfl) (fun w28 x28 z28 => ?_)
            refine l_do 0 (by kernel_rfl) rfl rfl (by kernel_rfl) (by kernel_rfl) (by kernel_rfl) rfl rfl rfl (d_field rfl (k := 2) (r := 2) (by kernel_rfl) rfl rfl) ((Ext.refl (fun i => (Value.slice g2 ((vs ++ vs2.take k).length) c2).ownBlock = some i) w27).trans x28.no) ?_
            refine l_do 1 (by kernel_rfl) rfl rfl (by kernel_rfl) (by kernel_rfl) (by kernel_rfl) rfl rfl rfl (d_load rfl rfl (by kernel_rfl) (fun _ hx => (B27.extO hx Nb).cel 2 rfl)) ((Ext.refl (fun i => (Value.slice g2 ((vs ++ vs2.take k).length) c2).ownBlock = some i) w27).trans x28.no) ?_
            refine l_do 2 (by kernel_rfl) rfl rfl (by kernel_rfl) (by kernel_rfl) (by kernel_rfl) rfl rfl rfl (d_field rfl (k := 2) (r := 2) (by kernel_rfl) rfl rfl) ((Ext.refl (fun i => (Value.slice g2 ((vs ++ vs2.take k).length) c2).ownBlock = some i) w27).trans x28.no) ?_
            refine l_do 3 (by kernel_rfl) rfl rfl (by kernel_rfl) (by kernel_rfl) (by kernel_rfl) rfl rfl rfl (d_load rfl rfl (by kernel_rfl) (fun _ hx => ((((((B2r12.ext0 x23).ext0 x24).ext0 x25).extO x26 (own_ne Oa (by omega))).ext x27 (show ¬ (b2 = b10) by omega)).extO hx (own_ne Ob (by omega))).cel 2 rfl)) ((Ext.refl (fun i => (Value.slice g2 ((vs ++ vs2.take k).length) c2).ownBlock = some i) w27).trans x28.no) ?_
            refine l_do 4 (by kernel_rfl) rfl rfl (by kernel_rfl) (by kernel_rfl) (by kernel_rfl) rfl rfl rfl (d_move rfl rfl) ((Ext.refl (fun i => (Value.slice g2 ((vs ++ vs2.take k).length) c2).ownBlock = some i) w27).trans x28.no) ?_
            obtain ⟨z, hz⟩ : ∃ x, vs2[k]? = some x := ⟨_, List.getElem?_eq_getElem (by omega)⟩
            have hct := hd2 _ _ hz
            refine l_do 5 (by kernel_rfl) rfl rfl (by kernel_rfl) (by kernel_rfl) (by kernel_rfl) rfl rfl rfl (d_indexE rfl (z := 1) (j := k) (r := k) (by kernel_rfl) rfl rfl rfl (by omega) hct (by omega)) ((Ext.refl (fun i => (Value.slice g2 ((vs ++ vs2.take k).length) c2).ownBlock = some i) w27).trans x28.no) ?_
            refine l_do 6 (by kernel_rfl) rfl rfl (by kernel_rfl) (by kernel_rfl) (by kernel_rfl) rfl rfl rfl (d_loadE rfl rfl (by kernel_rfl) (fun _ hx => hct.ext0 ((((((((Ext.refl No w).trans x12).trans x23).trans x24).trans x25).transO x26 o26 (by omega)).trans_new x27 (fun i hi => by subst hi; omega)).transO hx f28 (by omega)))) ((Ext.refl (fun i => (Value.slice g2 ((vs ++ vs2.take k).length) c2).ownBlock = some i) w27).trans x28.no) ?_
            refine l_all [7] (by kernel_rfl) (by simp) ?_
            refine all1 ?_
            refine o_go rfl rfl rfl rfl (g_oneI rfl rfl) ?_
            rintro _ w29 ⟨b29, rfl, s29, R29, x29⟩
            have m29 := x29.size
            refine l_and (fun _ => (((Ext.refl (fun i => (Value.slice g2 ((vs ++ vs2.take k).length) c2).ownBlock = some i) w27).trans x28.no).trans x29.no)) ?_
            refine l_all [8] (by kernel_rfl) (by simp) ?_
            refine all1 ?_
            have o30 := (((((((Ob.ext0 x23).ext0 x24).ext0 x25).extO x26 Ap).extb x27 Nb).ext0 x28).ext0 x29)
            refine o_go rfl rfl rfl rfl (g_appendI rfl rfl rfl (by simp) o30 R29 (by omega) (by first | omega | (simp <;> omega))) ?_
            rintro _ w30 ⟨g30, c30, rfl, O30, x30, y30⟩
            have m30 := x30.size
            refine l_and (fun _ => ((((Ext.refl (fun i => (Value.slice g2 ((vs ++ vs2.take k).length) c2).ownBlock = some i) w27).trans x28.no).trans x29.no).trans x30)) ?_
            refine l_do 9 (by kernel_rfl) rfl rfl (by kernel_rfl) (by kernel_rfl) (by kernel_rfl) rfl rfl rfl (d_field rfl (k := 2) (r := 2) (by kernel_rfl) rfl rfl) ((((Ext.refl (fun i => (Value.slice g2 ((vs ++ vs2.take k).length) c2).ownBlock = some i) w27).trans x28.no).trans x29.no).trans x30) ?_
            refine l_all [10] (by kernel_rfl) (by simp) ?_
            refine all1 ?_
            refine o_put rfl rfl rfl (p_store rfl rfl rfl (vs := [.slice g30 (((vs ++ vs2.take k) ++ ([z])).length) c30]) rfl (by simp [Value.oneCell']) (by kernel_rfl) ((((B27.ext0 x28).ext0 x29).extO x30 Nb)) (by simp) (out := [.bool lf, .slice g26 (((ks ++ ks2.take k) ++ ([y])).length) c26, .slice g30 (((vs ++ vs2.take k) ++ ([z])).length) c30]) rfl) ?_
            rintro w31 ⟨B31, x31, t31⟩
            refine l_and (fun h => absurd rfl h) ?_
            refine l_done (by kernel_rfl) ?_
            refine s_region ?_
            refine s_do rfl rfl rfl (d_move rfl rfl) ?_
            refine s_do rfl rfl rfl (d_add64 rfl rfl rfl (r := (k : Int) + 1) (by omega) (by omega)) ?_
            refine s_do rfl rfl rfl (d_assign rfl rfl) ?_
            refine s_end ?_
            intro _ hF
            refine ⟨(k + 1), (hF.cons (hF.cons (hF.cons (hF.cons hF.nil 8 _ _ rfl rfl) 4 _ _ rfl rfl) 3 _ _ rfl rfl) 9 _ _ rfl (by go_num)), ⟨(((((((((x12.trans x23).trans x24).trans x25).transO x26 o26 (by omega)).trans_new x27 (fun i hi => by subst hi; omega)).trans x28).trans x29).transO x30 o30 (by omega)).trans_new x31 (fun i hi => by subst hi; omega)), (((((((((B1r12.ext0 x23).ext0 x24).ext0 x25).extO x26 (own_ne Oa (by omega))).ext x27 (show ¬ (b1 = b10) by omega)).ext0 x28).ext0 x29).extO x30 (own_ne Ob (by omega))).ext x31 (show ¬ (b1 = b10) by omega)), (((((((((B2r12.ext0 x23).ext0 x24).ext0 x25).extO x26 (own_ne Oa (by omega))).ext x27 (show ¬ (b2 = b10) by omega)).ext0 x28).ext0 x29).extO x30 (own_ne Ob (by omega))).ext x31 (show ¬ (b2 = b10) by omega)), (((((((((B3r12.ext0 x23).ext0 x24).ext0 x25).extO x26 (own_ne Oa (by omega))).ext x27 (show ¬ (b3 = b10) by omega)).ext0 x28).ext0 x29).extO x30 (own_ne Ob (by omega))).ext x31 (show ¬ (b3 = b10) by omega)), ?_⟩, ?_⟩
            · have e1 : (ks ++ ks2.take k) ++ [y] = ks ++ ks2.take (k + 1) := by rw [List.take_add_one, hy, List.append_assoc]; rfl
              have e2 : (vs ++ vs2.take k) ++ [z] = vs ++ vs2.take (k + 1) := by rw [List.take_add_one, hz, List.append_assoc]; rfl
              rw [← e1, ← e2]
              exact ⟨by omega, fun _ => hstep, _, _, _, _, B31, (((((O26.extb x27 (ne_grown y26 Na (by omega))).ext0 x28).ext0 x29).extO x30 ((apart_grown y26 Ap (((Ob.ext0 x23).ext0 x24).ext0 x25))).symm).extb x31 (ne_grown y26 Na (by omega))), (O30.extb x31 (ne_grown y30 Nb (by omega))), ((apart_grown y30 ((apart_grown y26 Ap (((Ob.ext0 x23).ext0 x24).ext0 x25))).symm (((O26.extb x27 (ne_grown y26 Na (by omega))).ext0 x28).ext0 x29))).symm, (ne_grown y26 Na (by omega)), (ne_grown y30 Nb (by omega))⟩
            · omega
        · -- no: (k : Int) < (ks2.length : Int)
          refine k_exit ?_
          refine k_here ?_
          refine k_seq ?_
          refine s_region ?_
          refine s_do rfl rfl rfl (d_loadAgg rfl rfl (vs := [.bool lf, .slice g ((ks ++ ks2.take k).length) c, .slice g2 ((vs ++ vs2.take k).length) c2]) (by kernel_rfl) (here (Bb.part 0 3 _ rfl))) ?_
          refine s_put rfl rfl (p_store rfl rfl rfl (vs := [.bool lf, .slice g ((ks ++ ks2.take k).length) c, .slice g2 ((vs ++ vs2.take k).length) c2]) rfl (by simp [Value.oneCell']) (by kernel_rfl) (B3r12) (by simp) (out := [.bool lf, .slice g ((ks ++ ks2.take k).length) c, .slice g2 ((vs ++ vs2.take k).length) c2]) rfl) ?_
          rintro w32 ⟨B32, x32, t32⟩
          refine s_do rfl rfl rfl (d_assign rfl rfl) ?_
          refine s_end ?_
          refine k_ret ?_
          refine doneL rfl [.agg #[.bool lf, .slice g ((ks ++ ks2.take k).length) c, .slice g2 ((vs ++ vs2.take k).length) c2], .bool true] ⟨⟨_, _, rfl, run_loadBlk (by kernel_rfl) (B32) (vs := [.bool lf, .slice g ((ks ++ ks2.take k).length) c, .slice g2 ((vs ++ vs2.take k).length) c2]) rfl⟩, ⟨rfl, trivial⟩⟩ (v := .tuple #[.agg #[.bool lf, .slice g ((ks ++ ks2.take k).length) c, .slice g2 ((vs ++ vs2.take k).length) c2], .bool true]) rfl ?_
          have X := (((Ext.refl No w).trans x12).trans_new x32 (fun i hi => by subst hi; omega))
          have hb : besB lf ks vs lf2 ks2 vs2 = true := bes_t ⟨hok, hok2, by simpa using h3, ends_end (by omega) hends⟩
          refine ⟨_, by rw [hb], ?_, X⟩
          rw [bothT, if_pos hb]
          exact ResN.cast (ResN.mk ((Oa.extb x32 (own_ne Oa (by omega))).base (by omega)) ((Ob.extb x32 (own_ne Ob (by omega))).base (by omega)) Ap) (by rw [show k = ks2.length by omega, List.take_length]) (by rw [show k = vs2.length by omega, List.take_length])

theorem rjoin_c (lf lf2 : Bool) (kv vv kv2 vv2 : Value) (ks vs ks2 vs2 : List Int) (w : World) (hk : RdI kv ks w) (hv : RdI vv vs w) (hk2 : RdI kv2 ks2 w) (hv2 : RdI vv2 vs2 w) :
    Calls Try.prog 26 #[.agg #[.bool lf, kv, vv], .agg #[.bool lf2, kv2, vv2]] w (Ret fun v w' => ∃ u, v = .tuple #[u, .int .i64 (joinN lf ks vs lf2 ks2 vs2).2.2.2] ∧ ResN w.heap.size (joinN lf ks vs lf2 ks2 vs2).1 (joinN lf ks vs lf2 ks2 vs2).2.1 (joinN lf ks vs lf2 ks2 vs2).2.2.1 u w' ∧ Ext No w w') := by
  have hk0 := hk; have hv0 := hv
  obtain ⟨ka, kc, rfl, hkc, hkm, hc⟩ := hk0.opened
  obtain ⟨va, vc, rfl, hvc, hvm, hd⟩ := hv0.opened
  have hk02 := hk2; have hv02 := hv2
  obtain ⟨ka2, kc2, rfl, hkc2, hkm2, hc2⟩ := hk02.opened
  obtain ⟨va2, vc2, rfl, hvc2, hvm2, hd2⟩ := hv02.opened
  obtain ⟨L, K, V, hB⟩ : ∃ L K V, bothT lf ks vs lf2 ks2 vs2 = (L, K, V) := ⟨_, _, _, rfl⟩
  have l16 : (ks ++ ks2).length = ks.length + ks2.length := by simp
  refine enter Try.func26 rfl 23 Try.ntmps26 rfl ?_
  refine k_seq ?_
  refine s_region ?_
  refine s_go rfl rfl rfl (g_box rfl rfl rfl) ?_
  rintro _ w1 ⟨b1, rfl, s1, t1, B1, x1⟩
  refine s_go rfl rfl rfl (g_box rfl rfl rfl) ?_
  rintro _ w2 ⟨b2, rfl, s2, t2, B2, x2⟩
  refine s_go rfl rfl rfl (g_alloc (P := Try.prog) rfl (zs := [.bool false, .slice none 0 0, .slice none 0 0]) (by kernel_rfl)) ?_
  rintro _ w3 ⟨b3, rfl, s3, t3, B3, x3⟩
  refine s_do rfl rfl rfl (d_assign rfl rfl) ?_
  refine s_end ?_
  refine k_seq ?_
  refine s_region ?_
  refine s_do rfl rfl rfl (d_loadAgg rfl rfl (vs := [.bool lf, .slice ka ks.length kc, .slice va vs.length vc]) (by kernel_rfl) (here (((B1.ext0 x2).ext0 x3).part 0 3 _ rfl))) ?_
  refine s_do rfl rfl rfl (d_loadAgg rfl rfl (vs := [.bool lf2, .slice ka2 ks2.length kc2, .slice va2 vs2.length vc2]) (by kernel_rfl) (here ((B2.ext0 x3).part 0 3 _ rfl))) ?_
  have cb1_2 := rboth_c lf lf2 (.slice ka ks.length kc) (.slice va vs.length vc) (.slice ka2 ks2.length kc2) (.slice va2 vs2.length vc2) ks vs ks2 vs2 w3 (((hk.ext0 x1).ext0 x2).ext0 x3) (((hv.ext0 x1).ext0 x2).ext0 x3) (((hk2.ext0 x1).ext0 x2).ext0 x3) (((hv2.ext0 x1).ext0 x2).ext0 x3)
  rw [hB] at cb1_2; dsimp only at cb1_2
  refine s_call rfl rfl rfl rfl rfl (fun w => Try.call37 _ w) (cb1_2) ?_
  rintro _ w4 ⟨_, rfl, ⟨ga4, ca4, gb4, cb4, rfl, Oa4, Ob4, Ap4⟩, x4⟩
  have m4 := x4.size
  clear cb1_2
  refine s_do rfl rfl rfl (d_move rfl rfl) ?_
  refine s_do rfl rfl rfl (d_extract rfl rfl rfl) ?_
  refine s_do rfl rfl rfl (d_extract rfl rfl rfl) ?_
  refine s_go rfl rfl rfl (g_alloc (P := Try.prog) rfl (zs := [.bool false, .slice none 0 0, .slice none 0 0]) (by kernel_rfl)) ?_
  rintro _ w5 ⟨b5, rfl, s5, t5, B5, x5⟩
  refine s_put rfl rfl (p_store rfl rfl rfl (vs := [.bool L, .slice ga4 ((K).length) ca4, .slice gb4 ((V).length) cb4]) rfl (by simp [Value.oneCell']) (by kernel_rfl) (B5) (by simp) (out := [.bool L, .slice ga4 ((K).length) ca4, .slice gb4 ((V).length) cb4]) rfl) ?_
  rintro w6 ⟨B6, x6, t6⟩
  refine s_do rfl rfl rfl (d_assign rfl rfl) ?_
  refine s_end ?_
  refine k_seq ?_
  refine k_seq ?_
  refine s_region ?_
  refine s_do rfl rfl rfl (d_move rfl rfl) ?_
  refine s_do rfl rfl rfl (d_not rfl rfl) ?_
  refine s_end ?_
  refine k_cond rfl (fun h1 => ?_) (fun h1 => ?_)
  · -- yes: (!besB lf ks vs lf2 ks2 vs2)
    have hb : besB lf ks vs lf2 ks2 vs2 = false := by simpa using h1
    refine k_seq ?_
    refine s_region ?_
    refine s_do rfl rfl rfl (d_build rfl rfl (out := [.bool false, .slice none 0 0, .slice none 0 0]) (by kernel_rfl)) ?_
    refine s_put rfl rfl (p_store rfl rfl rfl (vs := [.bool false, .slice none 0 0, .slice none 0 0]) rfl (by simp [Value.oneCell']) (by kernel_rfl) ((((B3.ext0 x4).ext0 x5).ext x6 (show ¬ (b3 = b5) by omega))) (by simp) (out := [.bool false, .slice none 0 0, .slice none 0 0]) rfl) ?_
    rintro w7 ⟨B7, x7, t7⟩
    refine s_do rfl rfl rfl (d_assign rfl rfl) ?_
    refine s_end ?_
    refine k_ret ?_
    refine doneL rfl [.agg #[.bool false, .slice none 0 0, .slice none 0 0], .int .i64 22] ⟨⟨_, _, rfl, run_loadBlk (by kernel_rfl) (B7) (vs := [.bool false, .slice none 0 0, .slice none 0 0]) rfl⟩, ⟨rfl, trivial⟩⟩ (v := .tuple #[.agg #[.bool false, .slice none 0 0, .slice none 0 0], .int .i64 22]) rfl ?_
    have X := ((((((((Ext.refl No w).trans x1).trans x2).trans x3).trans x4).trans x5).trans_new x6 (fun i hi => by subst hi; omega)).trans_new x7 (fun i hi => by subst hi; omega))
    have e : joinN lf ks vs lf2 ks2 vs2 = (false, [], [], 22) := by rw [joinN, if_neg (by rw [hb]; simp)]
    rw [e]
    exact ⟨_, rfl, ResN.cast (ks := []) (vs := []) (ResN.zero _ _) (by simp) (by simp), X⟩
  · -- no: (!besB lf ks vs lf2 ks2 vs2)
    have hb : besB lf ks vs lf2 ks2 vs2 = true := by simpa using h1
    obtain ⟨a1, a2, a3, a4⟩ := bes_ok hb
    obtain ⟨p1, p2, -⟩ := okB_ok a1
    obtain ⟨q1, q2, -⟩ := okB_ok a2
    rw [bothT, if_pos hb] at hB
    obtain ⟨eL, eK, eV⟩ : lf = L ∧ ks ++ ks2 = K ∧ vs ++ vs2 = V := by simpa using hB
    subst eL; subst eK; subst eV
    refine k_skip ?_
    refine k_seq ?_
    refine k_seq ?_
    refine s_region ?_
    refine s_do rfl rfl rfl (d_field rfl (k := 1) (r := 1) (by kernel_rfl) rfl rfl) ?_
    refine s_do rfl rfl rfl (d_load rfl rfl (by kernel_rfl) (here (B6.cel 1 rfl))) ?_
    refine s_do rfl rfl rfl (d_len rfl (z := 1) (by kernel_rfl) rfl) ?_
    refine s_do rfl rfl rfl (d_gtr rfl rfl rfl) ?_
    refine s_end ?_
    refine k_dec rfl (fun h2 => ?_) (fun h2 => ?_)
    · -- yes: (8 : Int) < (((ks ++ ks2)).length : Int)
      refine k_seq ?_
      refine s_region ?_
      refine s_do rfl rfl rfl (d_build rfl rfl (out := [.bool false, .slice none 0 0, .slice none 0 0]) (by kernel_rfl)) ?_
      refine s_put rfl rfl (p_store rfl rfl rfl (vs := [.bool false, .slice none 0 0, .slice none 0 0]) rfl (by simp [Value.oneCell']) (by kernel_rfl) ((((B3.ext0 x4).ext0 x5).ext x6 (show ¬ (b3 = b5) by omega))) (by simp) (out := [.bool false, .slice none 0 0, .slice none 0 0]) rfl) ?_
      rintro w8 ⟨B8, x8, t8⟩
      refine s_do rfl rfl rfl (d_assign rfl rfl) ?_
      refine s_end ?_
      refine k_ret ?_
      refine doneL rfl [.agg #[.bool false, .slice none 0 0, .slice none 0 0], .int .i64 15] ⟨⟨_, _, rfl, run_loadBlk (by kernel_rfl) (B8) (vs := [.bool false, .slice none 0 0, .slice none 0 0]) rfl⟩, ⟨rfl, trivial⟩⟩ (v := .tuple #[.agg #[.bool false, .slice none 0 0, .slice none 0 0], .int .i64 15]) rfl ?_
      have X := ((((((((Ext.refl No w).trans x1).trans x2).trans x3).trans x4).trans x5).trans_new x6 (fun i hi => by subst hi; omega)).trans_new x8 (fun i hi => by subst hi; omega))
      have e : joinN lf ks vs lf2 ks2 vs2 = (false, [], [], 15) := by rw [joinN, if_pos hb, if_neg (by omega)]
      rw [e]
      exact ⟨_, rfl, ResN.cast (ks := []) (vs := []) (ResN.zero _ _) (by simp) (by simp), X⟩
    · -- no: (8 : Int) < (((ks ++ ks2)).length : Int)
      refine k_skip ?_
      refine k_seq ?_
      refine s_region ?_
      refine s_do rfl rfl rfl (d_loadAgg rfl rfl (vs := [.bool lf, .slice ga4 (((ks ++ ks2)).length) ca4, .slice gb4 (((vs ++ vs2)).length) cb4]) (by kernel_rfl) (here (B6.part 0 3 _ rfl))) ?_
      refine s_put rfl rfl (p_store rfl rfl rfl (vs := [.bool lf, .slice ga4 (((ks ++ ks2)).length) ca4, .slice gb4 (((vs ++ vs2)).length) cb4]) rfl (by simp [Value.oneCell']) (by kernel_rfl) ((((B3.ext0 x4).ext0 x5).ext x6 (show ¬ (b3 = b5) by omega))) (by simp) (out := [.bool lf, .slice ga4 (((ks ++ ks2)).length) ca4, .slice gb4 (((vs ++ vs2)).length) cb4]) rfl) ?_
      rintro w9 ⟨B9, x9, t9⟩
      refine s_do rfl rfl rfl (d_assign rfl rfl) ?_
      refine s_end ?_
      refine k_ret ?_
      refine doneL rfl [.agg #[.bool lf, .slice ga4 (((ks ++ ks2)).length) ca4, .slice gb4 (((vs ++ vs2)).length) cb4], .int .i64 0] ⟨⟨_, _, rfl, run_loadBlk (by kernel_rfl) (B9) (vs := [.bool lf, .slice ga4 (((ks ++ ks2)).length) ca4, .slice gb4 (((vs ++ vs2)).length) cb4]) rfl⟩, ⟨rfl, trivial⟩⟩ (v := .tuple #[.agg #[.bool lf, .slice ga4 (((ks ++ ks2)).length) ca4, .slice gb4 (((vs ++ vs2)).length) cb4], .int .i64 0]) rfl ?_
      have X := ((((((((Ext.refl No w).trans x1).trans x2).trans x3).trans x4).trans x5).trans_new x6 (fun i hi => by subst hi; omega)).trans_new x9 (fun i hi => by subst hi; omega))
      have e : joinN lf ks vs lf2 ks2 vs2 = (lf, ks ++ ks2, vs ++ vs2, 0) := by rw [joinN, if_pos hb, if_pos (by omega)]
      rw [e]
      exact ⟨_, rfl, ResN.cast (ks := (ks ++ ks2)) (vs := (vs ++ vs2)) (ResN.mk ((((Oa4.ext0 x5).extb x6 (own_ne Oa4 (by omega))).extb x9 (own_ne Oa4 (by omega))).base (by omega)) ((((Ob4.ext0 x5).extb x6 (own_ne Ob4 (by omega))).extb x9 (own_ne Ob4 (by omega))).base (by omega)) Ap4) (by simp) (by simp), X⟩

theorem rshare_c (lf lf2 : Bool) (kv vv kv2 vv2 : Value) (ks vs ks2 vs2 : List Int) (w : World) (hk : RdI kv ks w) (hv : RdI vv vs w) (hk2 : RdI kv2 ks2 w) (hv2 : RdI vv2 vs2 w) :
    Calls Try.prog 28 #[.agg #[.bool lf, kv, vv], .agg #[.bool lf2, kv2, vv2]] w (Ret fun v w' => ∃ u u2, v = .tuple #[u, u2, .int .i64 (shareN lf ks vs lf2 ks2 vs2).2.2] ∧ ResN w.heap.size (shareN lf ks vs lf2 ks2 vs2).1.1 (shareN lf ks vs lf2 ks2 vs2).1.2.1 (shareN lf ks vs lf2 ks2 vs2).1.2.2 u w' ∧ ResN w.heap.size (shareN lf ks vs lf2 ks2 vs2).2.1.1 (shareN lf ks vs lf2 ks2 vs2).2.1.2.1 (shareN lf ks vs lf2 ks2 vs2).2.1.2.2 u2 w' ∧ Ap2 u u2 ∧ Ext No w w') := by
  have hk0 := hk; have hv0 := hv
  obtain ⟨ka, kc, rfl, hkc, hkm, hc⟩ := hk0.opened
  obtain ⟨va, vc, rfl, hvc, hvm, hd⟩ := hv0.opened
  have hk02 := hk2; have hv02 := hv2
  obtain ⟨ka2, kc2, rfl, hkc2, hkm2, hc2⟩ := hk02.opened
  obtain ⟨va2, vc2, rfl, hvc2, hvm2, hd2⟩ := hv02.opened
  obtain ⟨L, K, V, hB⟩ : ∃ L K V, bothT lf ks vs lf2 ks2 vs2 = (L, K, V) := ⟨_, _, _, rfl⟩
  have l16 : (ks ++ ks2).length = ks.length + ks2.length := by simp
  refine enter Try.func28 rfl 34 Try.ntmps28 rfl ?_
  refine k_seq ?_
  refine s_region ?_
  refine s_go rfl rfl rfl (g_box rfl rfl rfl) ?_
  rintro _ w1 ⟨b1, rfl, s1, t1, B1, x1⟩
  refine s_go rfl rfl rfl (g_box rfl rfl rfl) ?_
  rintro _ w2 ⟨b2, rfl, s2, t2, B2, x2⟩
  refine s_go rfl rfl rfl (g_alloc (P := Try.prog) rfl (zs := [.bool false, .slice none 0 0, .slice none 0 0]) (by kernel_rfl)) ?_
  rintro _ w3 ⟨b3, rfl, s3, t3, B3, x3⟩
  refine s_go rfl rfl rfl (g_alloc (P := Try.prog) rfl (zs := [.bool false, .slice none 0 0, .slice none 0 0]) (by kernel_rfl)) ?_
  rintro _ w4 ⟨b4, rfl, s4, t4, B4, x4⟩
  refine s_do rfl rfl rfl (d_assign rfl rfl) ?_
  refine s_end ?_
  refine k_seq ?_
  refine s_region ?_
  refine s_do rfl rfl rfl (d_loadAgg rfl rfl (vs := [.bool lf, .slice ka ks.length kc, .slice va vs.length vc]) (by kernel_rfl) (here ((((B1.ext0 x2).ext0 x3).ext0 x4).part 0 3 _ rfl))) ?_
  refine s_do rfl rfl rfl (d_loadAgg rfl rfl (vs := [.bool lf2, .slice ka2 ks2.length kc2, .slice va2 vs2.length vc2]) (by kernel_rfl) (here (((B2.ext0 x3).ext0 x4).part 0 3 _ rfl))) ?_
  have cb1_2 := rboth_c lf lf2 (.slice ka ks.length kc) (.slice va vs.length vc) (.slice ka2 ks2.length kc2) (.slice va2 vs2.length vc2) ks vs ks2 vs2 w4 ((((hk.ext0 x1).ext0 x2).ext0 x3).ext0 x4) ((((hv.ext0 x1).ext0 x2).ext0 x3).ext0 x4) ((((hk2.ext0 x1).ext0 x2).ext0 x3).ext0 x4) ((((hv2.ext0 x1).ext0 x2).ext0 x3).ext0 x4)
  rw [hB] at cb1_2; dsimp only at cb1_2
  refine s_call rfl rfl rfl rfl rfl (fun w => Try.call37 _ w) (cb1_2) ?_
  rintro _ w5 ⟨_, rfl, ⟨ga5, ca5, gb5, cb5, rfl, Oa5, Ob5, Ap5⟩, x5⟩
  have m5 := x5.size
  clear cb1_2
  refine s_do rfl rfl rfl (d_move rfl rfl) ?_
  refine s_do rfl rfl rfl (d_extract rfl rfl rfl) ?_
  refine s_do rfl rfl rfl (d_extract rfl rfl rfl) ?_
  refine s_go rfl rfl rfl (g_alloc (P := Try.prog) rfl (zs := [.bool false, .slice none 0 0, .slice none 0 0]) (by kernel_rfl)) ?_
  rintro _ w6 ⟨b6, rfl, s6, t6, B6, x6⟩
  refine s_put rfl rfl (p_store rfl rfl rfl (vs := [.bool L, .slice ga5 ((K).length) ca5, .slice gb5 ((V).length) cb5]) rfl (by simp [Value.oneCell']) (by kernel_rfl) (B6) (by simp) (out := [.bool L, .slice ga5 ((K).length) ca5, .slice gb5 ((V).length) cb5]) rfl) ?_
  rintro w7 ⟨B7, x7, t7⟩
  refine s_do rfl rfl rfl (d_assign rfl rfl) ?_
  refine s_end ?_
  refine k_seq ?_
  refine k_seq ?_
  refine s_region ?_
  refine s_do rfl rfl rfl (d_move rfl rfl) ?_
  refine s_do rfl rfl rfl (d_not rfl rfl) ?_
  refine s_do rfl rfl rfl (d_move rfl rfl) ?_
  refine s_part_b 19 rfl (fun h1 => ?_) (fun h1 => ?_)
  · -- yes: (!besB lf ks vs lf2 ks2 vs2)
    have hb : besB lf ks vs lf2 ks2 vs2 = false := by simpa using h1
    refine s_skip rfl rfl rfl ?_
    refine s_skip rfl rfl rfl ?_
    refine s_skip rfl rfl rfl ?_
    refine s_skip rfl rfl rfl ?_
    refine s_do rfl rfl rfl (d_pick_t rfl rfl rfl) ?_
    refine s_end ?_
    refine k_true rfl ?_
    refine k_seq ?_
    refine s_region ?_
    refine s_do rfl rfl rfl (d_build rfl rfl (out := [.bool false, .slice none 0 0, .slice none 0 0]) (by kernel_rfl)) ?_
    refine s_do rfl rfl rfl (d_build rfl rfl (out := [.bool false, .slice none 0 0, .slice none 0 0]) (by kernel_rfl)) ?_
    refine s_put rfl rfl (p_store rfl rfl rfl (vs := [.bool false, .slice none 0 0, .slice none 0 0]) rfl (by simp [Value.oneCell']) (by kernel_rfl) (((((B3.ext0 x4).ext0 x5).ext0 x6).ext x7 (show ¬ (b3 = b6) by omega))) (by simp) (out := [.bool false, .slice none 0 0, .slice none 0 0]) rfl) ?_
    rintro w8 ⟨B8, x8, t8⟩
    refine s_put rfl rfl (p_store rfl rfl rfl (vs := [.bool false, .slice none 0 0, .slice none 0 0]) rfl (by simp [Value.oneCell']) (by kernel_rfl) (((((B4.ext0 x5).ext0 x6).ext x7 (show ¬ (b4 = b6) by omega)).ext x8 (show ¬ (b4 = b3) by omega))) (by simp) (out := [.bool false, .slice none 0 0, .slice none 0 0]) rfl) ?_
    rintro w9 ⟨B9, x9, t9⟩
    refine s_do rfl rfl rfl (d_assign rfl rfl) ?_
    refine s_end ?_
    refine k_ret ?_
    refine doneL rfl [.agg #[.bool false, .slice none 0 0, .slice none 0 0], .agg #[.bool false, .slice none 0 0, .slice none 0 0], .int .i64 22] ⟨⟨_, _, rfl, run_loadBlk (by kernel_rfl) ((B8.ext x9 (show ¬ (b3 = b4) by omega))) (vs := [.bool false, .slice none 0 0, .slice none 0 0]) rfl⟩, ⟨⟨_, _, rfl, run_loadBlk (by kernel_rfl) (B9) (vs := [.bool false, .slice none 0 0, .slice none 0 0]) rfl⟩, ⟨rfl, trivial⟩⟩⟩ (v := .tuple #[.agg #[.bool false, .slice none 0 0, .slice none 0 0], .agg #[.bool false, .slice none 0 0, .slice none 0 0], .int .i64 22]) rfl ?_
    have X := ((((((((((Ext.refl No w).trans x1).trans x2).trans x3).trans x4).trans x5).trans x6).trans_new x7 (fun i hi => by subst hi; omega)).trans_new x8 (fun i hi => by subst hi; omega)).trans_new x9 (fun i hi => by subst hi; omega))
    have e : shareN lf ks vs lf2 ks2 vs2 = (nilT, nilT, 22) := by rw [shareN, if_neg]; rintro ⟨a1, a2⟩; first | omega | (rw [hb] at a1; cases a1)
    rw [e]
    exact ⟨_, _, rfl, ResN.zero _ _, ResN.zero _ _, Ap2.zero, X⟩
  · -- no: (!besB lf ks vs lf2 ks2 vs2)
    have hb : besB lf ks vs lf2 ks2 vs2 = true := by simpa using h1
    obtain ⟨a1, a2, a3, a4⟩ := bes_ok hb
    obtain ⟨p1, p2, -⟩ := okB_ok a1
    obtain ⟨q1, q2, -⟩ := okB_ok a2
    rw [bothT, if_pos hb] at hB
    obtain ⟨eL, eK, eV⟩ : lf = L ∧ ks ++ ks2 = K ∧ vs ++ vs2 = V := by simpa using hB
    subst eL; subst eK; subst eV
    refine s_do rfl rfl rfl (d_field rfl (k := 1) (r := 1) (by kernel_rfl) rfl rfl) ?_
    refine s_do rfl rfl rfl (d_load rfl rfl (by kernel_rfl) (here (B7.cel 1 rfl))) ?_
    refine s_do rfl rfl rfl (d_len rfl (z := 1) (by kernel_rfl) rfl) ?_
    refine s_do rfl rfl rfl (d_lss rfl rfl rfl) ?_
    refine s_do rfl rfl rfl (d_pick_f rfl rfl rfl) ?_
    refine s_end ?_
    refine k_dec rfl (fun h2 => ?_) (fun h2 => ?_)
    · -- yes: (((ks ++ ks2)).length : Int) < 2
      refine k_seq ?_
      refine s_region ?_
      refine s_do rfl rfl rfl (d_build rfl rfl (out := [.bool false, .slice none 0 0, .slice none 0 0]) (by kernel_rfl)) ?_
      refine s_do rfl rfl rfl (d_build rfl rfl (out := [.bool false, .slice none 0 0, .slice none 0 0]) (by kernel_rfl)) ?_
      refine s_put rfl rfl (p_store rfl rfl rfl (vs := [.bool false, .slice none 0 0, .slice none 0 0]) rfl (by simp [Value.oneCell']) (by kernel_rfl) (((((B3.ext0 x4).ext0 x5).ext0 x6).ext x7 (show ¬ (b3 = b6) by omega))) (by simp) (out := [.bool false, .slice none 0 0, .slice none 0 0]) rfl) ?_
      rintro w10 ⟨B10, x10, t10⟩
      refine s_put rfl rfl (p_store rfl rfl rfl (vs := [.bool false, .slice none 0 0, .slice none 0 0]) rfl (by simp [Value.oneCell']) (by kernel_rfl) (((((B4.ext0 x5).ext0 x6).ext x7 (show ¬ (b4 = b6) by omega)).ext x10 (show ¬ (b4 = b3) by omega))) (by simp) (out := [.bool false, .slice none 0 0, .slice none 0 0]) rfl) ?_
      rintro w11 ⟨B11, x11, t11⟩
      refine s_do rfl rfl rfl (d_assign rfl rfl) ?_
      refine s_end ?_
      refine k_ret ?_
      refine doneL rfl [.agg #[.bool false, .slice none 0 0, .slice none 0 0], .agg #[.bool false, .slice none 0 0, .slice none 0 0], .int .i64 22] ⟨⟨_, _, rfl, run_loadBlk (by kernel_rfl) ((B10.ext x11 (show ¬ (b3 = b4) by omega))) (vs := [.bool false, .slice none 0 0, .slice none 0 0]) rfl⟩, ⟨⟨_, _, rfl, run_loadBlk (by kernel_rfl) (B11) (vs := [.bool false, .slice none 0 0, .slice none 0 0]) rfl⟩, ⟨rfl, trivial⟩⟩⟩ (v := .tuple #[.agg #[.bool false, .slice none 0 0, .slice none 0 0], .agg #[.bool false, .slice none 0 0, .slice none 0 0], .int .i64 22]) rfl ?_
      have X := ((((((((((Ext.refl No w).trans x1).trans x2).trans x3).trans x4).trans x5).trans x6).trans_new x7 (fun i hi => by subst hi; omega)).trans_new x10 (fun i hi => by subst hi; omega)).trans_new x11 (fun i hi => by subst hi; omega))
      have e : shareN lf ks vs lf2 ks2 vs2 = (nilT, nilT, 22) := by rw [shareN, if_neg]; rintro ⟨a1, a2⟩; first | omega | (rw [hb] at a1; cases a1)
      rw [e]
      exact ⟨_, _, rfl, ResN.zero _ _, ResN.zero _ _, Ap2.zero, X⟩
    · -- no: (((ks ++ ks2)).length : Int) < 2
      refine k_skip ?_
      refine k_seq ?_
      refine s_region ?_
      refine s_do rfl rfl rfl (d_loadAgg rfl rfl (vs := [.bool lf, .slice ga5 (((ks ++ ks2)).length) ca5, .slice gb5 (((vs ++ vs2)).length) cb5]) (by kernel_rfl) (here (B7.part 0 3 _ rfl))) ?_
      refine s_call rfl rfl rfl rfl rfl (fun w => Try.call35 _ w) (rhalves_c lf _ _ (ks ++ ks2) (vs ++ vs2) _ ((Oa5.ext0 x6).extb x7 (own_ne Oa5 (by omega))).rd ((Ob5.ext0 x6).extb x7 (own_ne Ob5 (by omega))).rd (by first | omega | (simp <;> omega)) (by first | omega | (simp <;> omega))) ?_
      rintro _ w12 ⟨_, _, rfl, ⟨ga12, ca12, gb12, cb12, rfl, Oa12, Ob12, Ap12⟩, ⟨gc12, cc12, gd12, cd12, rfl, Oc12, Od12, Aq12⟩, Ax12, x12⟩
      have m12 := x12.size
      obtain ⟨Aac12, Aad12, Abc12, Abd12⟩ := Ax12 _ _ _ _ _ _ rfl rfl
      refine s_do rfl rfl rfl (d_move rfl rfl) ?_
      refine s_do rfl rfl rfl (d_extract rfl rfl rfl) ?_
      refine s_do rfl rfl rfl (d_extract rfl rfl rfl) ?_
      refine s_go rfl rfl rfl (g_alloc (P := Try.prog) rfl (zs := [.bool false, .slice none 0 0, .slice none 0 0]) (by kernel_rfl)) ?_
      rintro _ w13 ⟨b13, rfl, s13, t13, B13, x13⟩
      refine s_go rfl rfl rfl (g_alloc (P := Try.prog) rfl (zs := [.bool false, .slice none 0 0, .slice none 0 0]) (by kernel_rfl)) ?_
      rintro _ w14 ⟨b14, rfl, s14, t14, B14, x14⟩
      refine s_put rfl rfl (p_store rfl rfl rfl (vs := [.bool lf, .slice ga12 (((ks ++ ks2).take (((ks ++ ks2).length + 1) / 2)).length) ca12, .slice gb12 (((vs ++ vs2).take (((ks ++ ks2).length + 1) / 2)).length) cb12]) rfl (by simp [Value.oneCell']) (by kernel_rfl) ((B13.ext0 x14)) (by simp) (out := [.bool lf, .slice ga12 (((ks ++ ks2).take (((ks ++ ks2).length + 1) / 2)).length) ca12, .slice gb12 (((vs ++ vs2).take (((ks ++ ks2).length + 1) / 2)).length) cb12]) rfl) ?_
      rintro w15 ⟨B15, x15, t15⟩
      refine s_put rfl rfl (p_store rfl rfl rfl (vs := [.bool lf, .slice gc12 (((ks ++ ks2).drop (((ks ++ ks2).length + 1) / 2)).length) cc12, .slice gd12 (((vs ++ vs2).drop (((ks ++ ks2).length + 1) / 2)).length) cd12]) rfl (by simp [Value.oneCell']) (by kernel_rfl) ((B14.ext x15 (show ¬ (b14 = b13) by omega))) (by simp) (out := [.bool lf, .slice gc12 (((ks ++ ks2).drop (((ks ++ ks2).length + 1) / 2)).length) cc12, .slice gd12 (((vs ++ vs2).drop (((ks ++ ks2).length + 1) / 2)).length) cd12]) rfl) ?_
      rintro w16 ⟨B16, x16, t16⟩
      refine s_end ?_
      refine k_seq ?_
      refine a_region (Ext (fun i => i = b3 ∨ i = b4) w16) 5 rfl (by kernel_rfl) (fun w17 x17 z17 => ?_)
      refine a_do 0 rfl (by kernel_rfl) (by kernel_rfl) (by kernel_rfl) rfl rfl rfl (d_loadAgg rfl rfl (vs := [.bool lf, .slice ga12 (((ks ++ ks2).take (((ks ++ ks2).length + 1) / 2)).length) ca12, .slice gb12 (((vs ++ vs2).take (((ks ++ ks2).length + 1) / 2)).length) cb12]) (by kernel_rfl) (fun _ hx => ((B15.ext x16 (show ¬ (b13 = b14) by omega)).ext hx (show ¬ (b13 = b3 ∨ b13 = b4) by omega)).part 0 3 _ rfl)) ((Ext.refl (fun i => i = b3 ∨ i = b4) w16).trans x17.no) ?_
      refine a_do 1 rfl (by kernel_rfl) (by kernel_rfl) (by kernel_rfl) rfl rfl rfl (d_loadAgg rfl rfl (vs := [.bool lf, .slice gc12 (((ks ++ ks2).drop (((ks ++ ks2).length + 1) / 2)).length) cc12, .slice gd12 (((vs ++ vs2).drop (((ks ++ ks2).length + 1) / 2)).length) cd12]) (by kernel_rfl) (fun _ hx => (B16.ext hx (show ¬ (b14 = b3 ∨ b14 = b4) by omega)).part 0 3 _ rfl)) ((Ext.refl (fun i => i = b3 ∨ i = b4) w16).trans x17.no) ?_
      refine a_all [2] (by kernel_rfl) (by simp) ?_
      refine all1 ?_
      refine o_put rfl rfl rfl (p_store rfl rfl rfl (vs := [.bool lf, .slice ga12 (((ks ++ ks2).take (((ks ++ ks2).length + 1) / 2)).length) ca12, .slice gb12 (((vs ++ vs2).take (((ks ++ ks2).length + 1) / 2)).length) cb12]) rfl (by simp [Value.oneCell']) (by kernel_rfl) (((((((((((B3.ext0 x4).ext0 x5).ext0 x6).ext x7 (show ¬ (b3 = b6) by omega)).ext0 x12).ext0 x13).ext0 x14).ext x15 (show ¬ (b3 = b13) by omega)).ext x16 (show ¬ (b3 = b14) by omega)).ext0 x17)) (by simp) (out := [.bool lf, .slice ga12 (((ks ++ ks2).take (((ks ++ ks2).length + 1) / 2)).length) ca12, .slice gb12 (((vs ++ vs2).take (((ks ++ ks2).length + 1) / 2)).length) cb12]) rfl) ?_
      rintro w18 ⟨B18, x18, t18⟩
      refine a_and (((Ext.refl (fun i => i = b3 ∨ i = b4) w16).trans x17.no).trans (x18.mono fun i _ q => by first | exact .inl q | exact .inr q)) ?_
      refine a_all [3] (by kernel_rfl) (by simp) ?_
      refine all1 ?_
      refine o_put rfl rfl rfl (p_store rfl rfl rfl (vs := [.bool lf, .slice gc12 (((ks ++ ks2).drop (((ks ++ ks2).length + 1) / 2)).length) cc12, .slice gd12 (((vs ++ vs2).drop (((ks ++ ks2).length + 1) / 2)).length) cd12]) rfl (by simp [Value.oneCell']) (by kernel_rfl) (((((((((((B4.ext0 x5).ext0 x6).ext x7 (show ¬ (b4 = b6) by omega)).ext0 x12).ext0 x13).ext0 x14).ext x15 (show ¬ (b4 = b13) by omega)).ext x16 (show ¬ (b4 = b14) by omega)).ext0 x17).ext x18 (show ¬ (b4 = b3) by omega))) (by simp) (out := [.bool lf, .slice gc12 (((ks ++ ks2).drop (((ks ++ ks2).length + 1) / 2)).length) cc12, .slice gd12 (((vs ++ vs2).drop (((ks ++ ks2).length + 1) / 2)).length) cd12]) rfl) ?_
      rintro w19 ⟨B19, x19, t19⟩
      refine a_and ((((Ext.refl (fun i => i = b3 ∨ i = b4) w16).trans x17.no).trans (x18.mono fun i _ q => by first | exact .inl q | exact .inr q)).trans (x19.mono fun i _ q => by first | exact .inl q | exact .inr q)) ?_
      refine a_do 4 rfl (by kernel_rfl) (by kernel_rfl) (by kernel_rfl) rfl rfl rfl (d_assign rfl rfl) ((((Ext.refl (fun i => i = b3 ∨ i = b4) w16).trans x17.no).trans (x18.mono fun i _ q => by first | exact .inl q | exact .inr q)).trans (x19.mono fun i _ q => by first | exact .inl q | exact .inr q)) ?_
      refine a_done (by kernel_rfl) ?_
      refine k_ret ?_
      refine doneL rfl [.agg #[.bool lf, .slice ga12 (((ks ++ ks2).take (((ks ++ ks2).length + 1) / 2)).length) ca12, .slice gb12 (((vs ++ vs2).take (((ks ++ ks2).length + 1) / 2)).length) cb12], .agg #[.bool lf, .slice gc12 (((ks ++ ks2).drop (((ks ++ ks2).length + 1) / 2)).length) cc12, .slice gd12 (((vs ++ vs2).drop (((ks ++ ks2).length + 1) / 2)).length) cd12], .int .i64 0] ⟨⟨_, _, rfl, run_loadBlk (by kernel_rfl) ((B18.ext x19 (show ¬ (b3 = b4) by omega))) (vs := [.bool lf, .slice ga12 (((ks ++ ks2).take (((ks ++ ks2).length + 1) / 2)).length) ca12, .slice gb12 (((vs ++ vs2).take (((ks ++ ks2).length + 1) / 2)).length) cb12]) rfl⟩, ⟨⟨_, _, rfl, run_loadBlk (by kernel_rfl) (B19) (vs := [.bool lf, .slice gc12 (((ks ++ ks2).drop (((ks ++ ks2).length + 1) / 2)).length) cc12, .slice gd12 (((vs ++ vs2).drop (((ks ++ ks2).length + 1) / 2)).length) cd12]) rfl⟩, ⟨rfl, trivial⟩⟩⟩ (v := .tuple #[.agg #[.bool lf, .slice ga12 (((ks ++ ks2).take (((ks ++ ks2).length + 1) / 2)).length) ca12, .slice gb12 (((vs ++ vs2).take (((ks ++ ks2).length + 1) / 2)).length) cb12], .agg #[.bool lf, .slice gc12 (((ks ++ ks2).drop (((ks ++ ks2).length + 1) / 2)).length) cc12, .slice gd12 (((vs ++ vs2).drop (((ks ++ ks2).length + 1) / 2)).length) cd12], .int .i64 0]) rfl ?_
      have X := ((((((((((((((((Ext.refl No w).trans x1).trans x2).trans x3).trans x4).trans x5).trans x6).trans_new x7 (fun i hi => by subst hi; omega)).trans x12).trans x13).trans x14).trans_new x15 (fun i hi => by subst hi; omega)).trans_new x16 (fun i hi => by subst hi; omega)).trans x17).trans_new x18 (fun i hi => by subst hi; omega)).trans_new x19 (fun i hi => by subst hi; omega))
      have e : shareN lf ks vs lf2 ks2 vs2 = ((lf, (ks ++ ks2).take (((ks ++ ks2).length + 1) / 2), (vs ++ vs2).take (((ks ++ ks2).length + 1) / 2)), (lf, (ks ++ ks2).drop (((ks ++ ks2).length + 1) / 2), (vs ++ vs2).drop (((ks ++ ks2).length + 1) / 2)), 0) := by rw [shareN, if_pos ⟨hb, by omega⟩]
      rw [e]
      exact ⟨_, _, rfl, (ResN.mk ((((((((Oa12.ext0 x13).ext0 x14).extb x15 (own_ne Oa12 (by omega))).extb x16 (own_ne Oa12 (by omega))).ext0 x17).extb x18 (own_ne Oa12 (by omega))).extb x19 (own_ne Oa12 (by omega))).base (by omega)) ((((((((Ob12.ext0 x13).ext0 x14).extb x15 (own_ne Ob12 (by omega))).extb x16 (own_ne Ob12 (by omega))).ext0 x17).extb x18 (own_ne Ob12 (by omega))).extb x19 (own_ne Ob12 (by omega))).base (by omega)) Ap12), (ResN.mk ((((((((Oc12.ext0 x13).ext0 x14).extb x15 (own_ne Oc12 (by omega))).extb x16 (own_ne Oc12 (by omega))).ext0 x17).extb x18 (own_ne Oc12 (by omega))).extb x19 (own_ne Oc12 (by omega))).base (by omega)) ((((((((Od12.ext0 x13).ext0 x14).extb x15 (own_ne Od12 (by omega))).extb x16 (own_ne Od12 (by omega))).ext0 x17).extb x18 (own_ne Od12 (by omega))).extb x19 (own_ne Od12 (by omega))).base (by omega)) Aq12), (Ap2.mk Aac12 Aad12 Abc12 Abd12), X⟩
end Go.Proofs.Yteehoppklgcggaa
