/-
  Walks of the laws of package node: puts. No condition.
-/
import Derived.Test.YteehoppklgcggaaNodeD
import Derived.Test.YteehoppklgcggaaNodeE
import Derived.Test.YteehoppklgcggaaNodeP
set_option maxRecDepth 100000
namespace Go.Proofs.Yteehoppklgcggaa
open Go.RowKit
theorem puts_c (lf : Bool) (kv vv : Value) (ks vs : List Int) (key : Int) (val : Int) (w : World) (hk : RdI kv ks w) (hv : RdI vv vs w) :
    Calls Try.prog 6 #[.agg #[.bool lf, kv, vv], .int .i64 key, .int .i64 val] w (Ret fun v w' => v = .bool true ∧ Ext No w w') := by
  have hk0 := hk; have hv0 := hv
  obtain ⟨ka, kc, rfl, hkc, hkm, hc⟩ := hk0.opened
  obtain ⟨va, vc, rfl, hvc, hvm, hd⟩ := hv0.opened
  refine enter Try.func6 rfl 66 Try.ntmps6 rfl ?_
  refine k_seq ?_
  refine s_region ?_
  refine s_go rfl rfl rfl (g_box rfl rfl rfl) ?_
  rintro _ w1 ⟨b1, rfl, s1, t1, B1, x1⟩
  refine s_do rfl rfl rfl (d_assign rfl rfl) ?_
  refine s_end ?_
  refine k_seq ?_
  refine s_region ?_
  refine s_do rfl rfl rfl (d_loadAgg rfl rfl (vs := [.bool lf, .slice ka ks.length kc, .slice va vs.length vc]) (by kernel_rfl) (here (B1.part 0 3 _ rfl))) ?_
  refine s_do rfl rfl rfl (d_move rfl rfl) ?_
  refine s_do rfl rfl rfl (d_move rfl rfl) ?_
  have c1_3 := put_c lf (.slice ka ks.length kc) (.slice va vs.length vc) ks vs key val w1 (hk.ext0 x1) (hv.ext0 x1)
  refine s_call rfl rfl rfl rfl rfl (fun w => Try.call18 _ w) (c1_3) ?_
  rintro _ w2 ⟨_, rfl, ⟨ga2, ca2, gb2, cb2, rfl, Oa2, Ob2, Ap2⟩, x2⟩
  have m2 := x2.size
  clear c1_3
  refine s_do rfl rfl rfl (d_move rfl rfl) ?_
  refine s_do rfl rfl rfl (d_extract rfl rfl rfl) ?_
  refine s_do rfl rfl rfl (d_extract rfl rfl rfl) ?_
  refine s_go rfl rfl rfl (g_alloc (P := Try.prog) rfl (zs := [.bool false, .slice none 0 0, .slice none 0 0]) (by kernel_rfl)) ?_
  rintro _ w3 ⟨b3, rfl, s3, t3, B3, x3⟩
  refine s_put rfl rfl (p_store rfl rfl rfl (vs := [.bool ((putN lf ks vs key val).1), .slice ga2 (((putN lf ks vs key val).2.1).length) ca2, .slice gb2 (((putN lf ks vs key val).2.2.1).length) cb2]) rfl (by simp [Value.oneCell']) (by kernel_rfl) (B3) (by simp) (out := [.bool ((putN lf ks vs key val).1), .slice ga2 (((putN lf ks vs key val).2.1).length) ca2, .slice gb2 (((putN lf ks vs key val).2.2.1).length) cb2]) rfl) ?_
  rintro w4 ⟨B4, x4, t4⟩
  refine s_do rfl rfl rfl (d_assign rfl rfl) ?_
  refine s_end ?_
  refine k_seq ?_
  refine s_region ?_
  refine s_do rfl rfl rfl (d_loadAgg rfl rfl (vs := [.bool lf, .slice ka ks.length kc, .slice va vs.length vc]) (by kernel_rfl) (here ((((B1.ext0 x2).ext0 x3).ext x4 (show ¬ (b1 = b3) by omega)).part 0 3 _ rfl))) ?_
  refine s_do rfl rfl rfl (d_move rfl rfl) ?_
  refine s_do rfl rfl rfl (d_move rfl rfl) ?_
  have c2_3 := rput_c lf (.slice ka ks.length kc) (.slice va vs.length vc) ks vs key val w4 (hk.ext0 (((((Ext.refl No w).trans x1).trans x2).trans x3).trans_new x4 (fun i hi => by subst hi; omega))) (hv.ext0 (((((Ext.refl No w).trans x1).trans x2).trans x3).trans_new x4 (fun i hi => by subst hi; omega)))
  refine s_call rfl rfl rfl rfl rfl (fun w => Try.call19 _ w) (c2_3) ?_
  rintro _ w5 ⟨_, rfl, ⟨ga5, ca5, gb5, cb5, rfl, Oa5, Ob5, Ap5⟩, x5⟩
  have m5 := x5.size
  clear c2_3
  refine s_do rfl rfl rfl (d_move rfl rfl) ?_
  refine s_do rfl rfl rfl (d_extract rfl rfl rfl) ?_
  refine s_do rfl rfl rfl (d_extract rfl rfl rfl) ?_
  refine s_go rfl rfl rfl (g_alloc (P := Try.prog) rfl (zs := [.bool false, .slice none 0 0, .slice none 0 0]) (by kernel_rfl)) ?_
  rintro _ w6 ⟨b6, rfl, s6, t6, B6, x6⟩
  refine s_put rfl rfl (p_store rfl rfl rfl (vs := [.bool ((putN lf ks vs key val).1), .slice ga5 (((putN lf ks vs key val).2.1).length) ca5, .slice gb5 (((putN lf ks vs key val).2.2.1).length) cb5]) rfl (by simp [Value.oneCell']) (by kernel_rfl) (B6) (by simp) (out := [.bool ((putN lf ks vs key val).1), .slice ga5 (((putN lf ks vs key val).2.1).length) ca5, .slice gb5 (((putN lf ks vs key val).2.2.1).length) cb5]) rfl) ?_
  rintro w7 ⟨B7, x7, t7⟩
  refine s_do rfl rfl rfl (d_assign rfl rfl) ?_
  refine s_end ?_
  refine k_seq ?_
  refine s_region ?_
  refine s_do rfl rfl rfl (d_loadAgg rfl rfl (vs := [.bool ((putN lf ks vs key val).1), .slice ga2 (((putN lf ks vs key val).2.1).length) ca2, .slice gb2 (((putN lf ks vs key val).2.2.1).length) cb2]) (by kernel_rfl) (here ((((B4.ext0 x5).ext0 x6).ext x7 (show ¬ (b3 = b6) by omega)).part 0 3 _ rfl))) ?_
  refine s_do rfl rfl rfl (d_loadAgg rfl rfl (vs := [.bool ((putN lf ks vs key val).1), .slice ga5 (((putN lf ks vs key val).2.1).length) ca5, .slice gb5 (((putN lf ks vs key val).2.2.1).length) cb5]) (by kernel_rfl) (here (B7.part 0 3 _ rfl))) ?_
  refine s_call rfl rfl rfl rfl rfl (fun w => Try.call20 _ w) (same_c ((putN lf ks vs key val).1) ((putN lf ks vs key val).1) _ _ _ _ ((putN lf ks vs key val).2.1) ((putN lf ks vs key val).2.2.1) ((putN lf ks vs key val).2.1) ((putN lf ks vs key val).2.2.1) _ (((((Oa2.ext0 x3).extb x4 (own_ne Oa2 (by omega))).ext0 x5).ext0 x6).extb x7 (own_ne Oa2 (by omega))).rd (((((Ob2.ext0 x3).extb x4 (own_ne Ob2 (by omega))).ext0 x5).ext0 x6).extb x7 (own_ne Ob2 (by omega))).rd ((Oa5.ext0 x6).extb x7 (own_ne Oa5 (by omega))).rd ((Ob5.ext0 x6).extb x7 (own_ne Ob5 (by omega))).rd) ?_
  rintro _ w8 ⟨rfl, x8⟩
  have m8 := x8.size
  refine s_do rfl rfl rfl (d_assign rfl rfl) ?_
  refine s_end ?_
  refine k_seq ?_
  refine s_region ?_
  refine s_do rfl rfl rfl (d_loadAgg rfl rfl (vs := [.bool lf, .slice ka ks.length kc, .slice va vs.length vc]) (by kernel_rfl) (here ((((((((B1.ext0 x2).ext0 x3).ext x4 (show ¬ (b1 = b3) by omega)).ext0 x5).ext0 x6).ext x7 (show ¬ (b1 = b6) by omega)).ext0 x8).part 0 3 _ rfl))) ?_
  refine s_do rfl rfl rfl (d_move rfl rfl) ?_
  have c4_2 := drop_c lf (.slice ka ks.length kc) (.slice va vs.length vc) ks vs key w8 (hk.ext0 (((((((((Ext.refl No w).trans x1).trans x2).trans x3).trans_new x4 (fun i hi => by subst hi; omega)).trans x5).trans x6).trans_new x7 (fun i hi => by subst hi; omega)).trans x8)) (hv.ext0 (((((((((Ext.refl No w).trans x1).trans x2).trans x3).trans_new x4 (fun i hi => by subst hi; omega)).trans x5).trans x6).trans_new x7 (fun i hi => by subst hi; omega)).trans x8))
  refine s_call rfl rfl rfl rfl rfl (fun w => Try.call21 _ w) (c4_2) ?_
  rintro _ w9 ⟨_, rfl, ⟨ga9, ca9, gb9, cb9, rfl, Oa9, Ob9, Ap9⟩, x9⟩
  have m9 := x9.size
  clear c4_2
  refine s_do rfl rfl rfl (d_move rfl rfl) ?_
  refine s_do rfl rfl rfl (d_extract rfl rfl rfl) ?_
  refine s_do rfl rfl rfl (d_extract rfl rfl rfl) ?_
  refine s_go rfl rfl rfl (g_alloc (P := Try.prog) rfl (zs := [.bool false, .slice none 0 0, .slice none 0 0]) (by kernel_rfl)) ?_
  rintro _ w10 ⟨b10, rfl, s10, t10, B10, x10⟩
  refine s_put rfl rfl (p_store rfl rfl rfl (vs := [.bool ((dropN lf ks vs key).1), .slice ga9 (((dropN lf ks vs key).2.1).length) ca9, .slice gb9 (((dropN lf ks vs key).2.2.1).length) cb9]) rfl (by simp [Value.oneCell']) (by kernel_rfl) (B10) (by simp) (out := [.bool ((dropN lf ks vs key).1), .slice ga9 (((dropN lf ks vs key).2.1).length) ca9, .slice gb9 (((dropN lf ks vs key).2.2.1).length) cb9]) rfl) ?_
  rintro w11 ⟨B11, x11, t11⟩
  refine s_do rfl rfl rfl (d_assign rfl rfl) ?_
  refine s_end ?_
  refine k_seq ?_
  refine s_region ?_
  refine s_do rfl rfl rfl (d_loadAgg rfl rfl (vs := [.bool lf, .slice ka ks.length kc, .slice va vs.length vc]) (by kernel_rfl) (here (((((((((((B1.ext0 x2).ext0 x3).ext x4 (show ¬ (b1 = b3) by omega)).ext0 x5).ext0 x6).ext x7 (show ¬ (b1 = b6) by omega)).ext0 x8).ext0 x9).ext0 x10).ext x11 (show ¬ (b1 = b10) by omega)).part 0 3 _ rfl))) ?_
  refine s_do rfl rfl rfl (d_move rfl rfl) ?_
  have c5_2 := rdrop_c lf (.slice ka ks.length kc) (.slice va vs.length vc) ks vs key w11 (hk.ext0 ((((((((((((Ext.refl No w).trans x1).trans x2).trans x3).trans_new x4 (fun i hi => by subst hi; omega)).trans x5).trans x6).trans_new x7 (fun i hi => by subst hi; omega)).trans x8).trans x9).trans x10).trans_new x11 (fun i hi => by subst hi; omega))) (hv.ext0 ((((((((((((Ext.refl No w).trans x1).trans x2).trans x3).trans_new x4 (fun i hi => by subst hi; omega)).trans x5).trans x6).trans_new x7 (fun i hi => by subst hi; omega)).trans x8).trans x9).trans x10).trans_new x11 (fun i hi => by subst hi; omega)))
  refine s_call rfl rfl rfl rfl rfl (fun w => Try.call22 _ w) (c5_2) ?_
  rintro _ w12 ⟨_, rfl, ⟨ga12, ca12, gb12, cb12, rfl, Oa12, Ob12, Ap12⟩, x12⟩
  have m12 := x12.size
  clear c5_2
  refine s_do rfl rfl rfl (d_move rfl rfl) ?_
  refine s_do rfl rfl rfl (d_extract rfl rfl rfl) ?_
  refine s_do rfl rfl rfl (d_extract rfl rfl rfl) ?_
  refine s_go rfl rfl rfl (g_alloc (P := Try.prog) rfl (zs := [.bool false, .slice none 0 0, .slice none 0 0]) (by kernel_rfl)) ?_
  rintro _ w13 ⟨b13, rfl, s13, t13, B13, x13⟩
  refine s_put rfl rfl (p_store rfl rfl rfl (vs := [.bool ((dropN lf ks vs key).1), .slice ga12 (((dropN lf ks vs key).2.1).length) ca12, .slice gb12 (((dropN lf ks vs key).2.2.1).length) cb12]) rfl (by simp [Value.oneCell']) (by kernel_rfl) (B13) (by simp) (out := [.bool ((dropN lf ks vs key).1), .slice ga12 (((dropN lf ks vs key).2.1).length) ca12, .slice gb12 (((dropN lf ks vs key).2.2.1).length) cb12]) rfl) ?_
  rintro w14 ⟨B14, x14, t14⟩
  refine s_do rfl rfl rfl (d_assign rfl rfl) ?_
  refine s_end ?_
  refine k_seq ?_
  refine s_region ?_
  refine s_do rfl rfl rfl (d_loadAgg rfl rfl (vs := [.bool ((dropN lf ks vs key).1), .slice ga9 (((dropN lf ks vs key).2.1).length) ca9, .slice gb9 (((dropN lf ks vs key).2.2.1).length) cb9]) (by kernel_rfl) (here ((((B11.ext0 x12).ext0 x13).ext x14 (show ¬ (b10 = b13) by omega)).part 0 3 _ rfl))) ?_
  refine s_do rfl rfl rfl (d_loadAgg rfl rfl (vs := [.bool ((dropN lf ks vs key).1), .slice ga12 (((dropN lf ks vs key).2.1).length) ca12, .slice gb12 (((dropN lf ks vs key).2.2.1).length) cb12]) (by kernel_rfl) (here (B14.part 0 3 _ rfl))) ?_
  refine s_call rfl rfl rfl rfl rfl (fun w => Try.call20 _ w) (same_c ((dropN lf ks vs key).1) ((dropN lf ks vs key).1) _ _ _ _ ((dropN lf ks vs key).2.1) ((dropN lf ks vs key).2.2.1) ((dropN lf ks vs key).2.1) ((dropN lf ks vs key).2.2.1) _ (((((Oa9.ext0 x10).extb x11 (own_ne Oa9 (by omega))).ext0 x12).ext0 x13).extb x14 (own_ne Oa9 (by omega))).rd (((((Ob9.ext0 x10).extb x11 (own_ne Ob9 (by omega))).ext0 x12).ext0 x13).extb x14 (own_ne Ob9 (by omega))).rd ((Oa12.ext0 x13).extb x14 (own_ne Oa12 (by omega))).rd ((Ob12.ext0 x13).extb x14 (own_ne Ob12 (by omega))).rd) ?_
  rintro _ w15 ⟨rfl, x15⟩
  have m15 := x15.size
  refine s_do rfl rfl rfl (d_assign rfl rfl) ?_
  refine s_end ?_
  refine k_seq ?_
  refine s_region ?_
  refine s_do rfl rfl rfl (d_move rfl rfl) ?_
  refine s_do rfl rfl rfl (d_move rfl rfl) ?_
  refine s_part 50 rfl (fun h1 => ?_) (fun h1 => ?_)
  · -- yes: ((putN lf ks vs key val).1) = ((putN lf ks vs key val).1) ∧ ((putN lf ks vs key val).2.1) = ((putN lf ks vs key val).2.1) ∧ ((putN lf ks vs key val).2.2.1) = ((putN lf ks vs key val).2.2.1)
    refine s_do rfl rfl rfl (d_move rfl rfl) ?_
    refine s_do rfl rfl rfl (d_move rfl rfl) ?_
    refine s_do rfl rfl rfl (d_eql rfl rfl rfl) ?_
    refine s_do rfl rfl rfl (d_pick_t rfl rfl rfl) ?_
    refine s_do rfl rfl rfl (d_move rfl rfl) ?_
    refine s_part 55 rfl (fun h2 => ?_) (fun h2 => ?_)
    · -- yes: ((putN lf ks vs key val).2.2.2 : Int) = ((putN lf ks vs key val).2.2.2)
      refine s_do rfl rfl rfl (d_move rfl rfl) ?_
      refine s_do rfl rfl rfl (d_pick_t rfl rfl rfl) ?_
      refine s_do rfl rfl rfl (d_move rfl rfl) ?_
      refine s_part 58 rfl (fun h3 => ?_) (fun h3 => ?_)
      · -- yes: ((dropN lf ks vs key).1) = ((dropN lf ks vs key).1) ∧ ((dropN lf ks vs key).2.1) = ((dropN lf ks vs key).2.1) ∧ ((dropN lf ks vs key).2.2.1) = ((dropN lf ks vs key).2.2.1)
        refine s_do rfl rfl rfl (d_move rfl rfl) ?_
        refine s_do rfl rfl rfl (d_move rfl rfl) ?_
        refine s_do rfl rfl rfl (d_eql rfl rfl rfl) ?_
        refine s_do rfl rfl rfl (d_pick_t rfl rfl rfl) ?_
        refine s_do rfl rfl rfl (d_move rfl rfl) ?_
        refine s_part 63 rfl (fun h4 => ?_) (fun h4 => ?_)
        · -- yes: ((dropN lf ks vs key).2.2.2 : Int) = ((dropN lf ks vs key).2.2.2)
          refine s_call rfl rfl rfl rfl rfl (fun w => Try.call13 _ w) (lives_c _) ?_
          rintro _ w16 ⟨rfl, x16⟩
          have m16 := x16.size
          refine s_do rfl rfl rfl (d_pick_t rfl rfl rfl) ?_
          refine s_do rfl rfl rfl (d_assign rfl rfl) ?_
          refine s_end ?_
          refine k_ret ?_
          refine doneL rfl [.bool true] ⟨rfl, trivial⟩ (v := .bool true) rfl ?_
          have X := (((((((((((((((((Ext.refl No w).trans x1).trans x2).trans x3).trans_new x4 (fun i hi => by subst hi; omega)).trans x5).trans x6).trans_new x7 (fun i hi => by subst hi; omega)).trans x8).trans x9).trans x10).trans_new x11 (fun i hi => by subst hi; omega)).trans x12).trans x13).trans_new x14 (fun i hi => by subst hi; omega)).trans x15).trans x16)
          exact ⟨by simp, X⟩
        · exact absurd rfl h4
      · exact absurd ⟨rfl, rfl, rfl⟩ h3
    · exact absurd rfl h2
  · exact absurd ⟨rfl, rfl, rfl⟩ h1

theorem keeps_c (lf : Bool) (kv vv : Value) (ks vs : List Int) (key : Int) (val : Int) (w : World) (hk : RdI kv ks w) (hv : RdI vv vs w) :
    Calls Try.prog 7 #[.agg #[.bool lf, kv, vv], .int .i64 key, .int .i64 val] w (Ret fun v w' => v = .bool true ∧ Ext No w w') := by
  have hk0 := hk; have hv0 := hv
  obtain ⟨ka, kc, rfl, hkc, hkm, hc⟩ := hk0.opened
  obtain ⟨va, vc, rfl, hvc, hvm, hd⟩ := hv0.opened
  obtain ⟨L, K, V, E, hp⟩ : ∃ L K V E, putN lf ks vs key val = (L, K, V, E) := ⟨_, _, _, _, rfl⟩
  have e1 := put_err lf ks vs key val
  have e2 := put_ok lf ks vs key val
  rw [hp] at e1 e2
  dsimp only at e1 e2
  refine enter Try.func7 rfl 140 Try.ntmps7 rfl ?_
  refine k_seq ?_
  refine s_region ?_
  refine s_go rfl rfl rfl (g_box rfl rfl rfl) ?_
  rintro _ w1 ⟨b1, rfl, s1, t1, B1, x1⟩
  refine s_do rfl rfl rfl (d_assign rfl rfl) ?_
  refine s_end ?_
  refine k_seq ?_
  refine s_region ?_
  refine s_do rfl rfl rfl (d_loadAgg rfl rfl (vs := [.bool lf, .slice ka ks.length kc, .slice va vs.length vc]) (by kernel_rfl) (here (B1.part 0 3 _ rfl))) ?_
  refine s_do rfl rfl rfl (d_move rfl rfl) ?_
  refine s_do rfl rfl rfl (d_move rfl rfl) ?_
  have c1_3 := put_c lf (.slice ka ks.length kc) (.slice va vs.length vc) ks vs key val w1 (hk.ext0 x1) (hv.ext0 x1)
  rw [hp] at c1_3; dsimp only at c1_3
  refine s_call rfl rfl rfl rfl rfl (fun w => Try.call18 _ w) (c1_3) ?_
  rintro _ w2 ⟨_, rfl, ⟨ga2, ca2, gb2, cb2, rfl, Oa2, Ob2, Ap2⟩, x2⟩
  have m2 := x2.size
  clear c1_3
  refine s_do rfl rfl rfl (d_move rfl rfl) ?_
  refine s_do rfl rfl rfl (d_extract rfl rfl rfl) ?_
  refine s_do rfl rfl rfl (d_extract rfl rfl rfl) ?_
  refine s_go rfl rfl rfl (g_alloc (P := Try.prog) rfl (zs := [.bool false, .slice none 0 0, .slice none 0 0]) (by kernel_rfl)) ?_
  rintro _ w3 ⟨b3, rfl, s3, t3, B3, x3⟩
  refine s_put rfl rfl (p_store rfl rfl rfl (vs := [.bool L, .slice ga2 ((K).length) ca2, .slice gb2 ((V).length) cb2]) rfl (by simp [Value.oneCell']) (by kernel_rfl) (B3) (by simp) (out := [.bool L, .slice ga2 ((K).length) ca2, .slice gb2 ((V).length) cb2]) rfl) ?_
  rintro w4 ⟨B4, x4, t4⟩
  refine s_do rfl rfl rfl (d_assign rfl rfl) ?_
  refine s_end ?_
  refine k_seq ?_
  refine k_seq ?_
  refine s_region ?_
  refine s_do rfl rfl rfl (d_move rfl rfl) ?_
  refine s_do rfl rfl rfl (d_neq rfl rfl rfl) ?_
  refine s_end ?_
  refine k_dec rfl (fun h1 => ?_) (fun h1 => ?_)
  · -- yes: (E : Int) ≠ 0
    have hE := h1
    refine k_seq ?_
    refine s_region ?_
    refine s_do rfl rfl rfl (d_field rfl (k := 1) (r := 1) (by kernel_rfl) rfl rfl) ?_
    refine s_do rfl rfl rfl (d_load rfl rfl (by kernel_rfl) (here (B4.cel 1 rfl))) ?_
    refine s_do rfl rfl rfl (d_len rfl (z := 1) (by kernel_rfl) rfl) ?_
    refine s_do rfl rfl rfl (d_eql rfl rfl rfl) ?_
    refine s_do rfl rfl rfl (d_move rfl rfl) ?_
    refine s_part 28 rfl (fun h2 => ?_) (fun h2 => ?_)
    · -- yes: ((K).length : Int) = 0
      refine s_call rfl rfl rfl rfl rfl (fun w => Try.call13 _ w) (lives_c _) ?_
      rintro _ w5 ⟨rfl, x5⟩
      have m5 := x5.size
      refine s_do rfl rfl rfl (d_pick_t rfl rfl rfl) ?_
      refine s_do rfl rfl rfl (d_assign rfl rfl) ?_
      refine s_end ?_
      refine k_ret ?_
      refine doneL rfl [.bool true] ⟨rfl, trivial⟩ (v := .bool true) rfl ?_
      have X := ((((((Ext.refl No w).trans x1).trans x2).trans x3).trans_new x4 (fun i hi => by subst hi; omega)).trans x5)
      exact ⟨by simp, X⟩
    · exact absurd (by rw [e1 hE]; rfl) h2
  · -- no: (E : Int) ≠ 0
    have q := e2 (by omega)
    have hK8 := q.ok.2.1
    obtain ⟨p1, p2, p3, p4, p5⟩ := okB_ok q.ok0
    have hfk := (List.getElem?_eq_some_iff.1 q.hkey).1
    have hfv := (List.getElem?_eq_some_iff.1 q.hval).1
    obtain ⟨L2, K2, V2, E2, hd2⟩ : ∃ L2 K2 V2 E2, dropN L K V (findN K key : Int) = (L2, K2, V2, E2) := ⟨_, _, _, _, rfl⟩
    have qo : OkN L K V := by rw [q.leaf]; exact q.ok
    have d1 := drop_err qo (findN K key) hfk
    have d2 := drop_ok qo (findN K key) hfk
    rw [hd2] at d1 d2
    dsimp only at d1 d2
    refine k_skip ?_
    refine k_seq ?_
    refine s_region ?_
    refine s_do rfl rfl rfl (d_loadAgg rfl rfl (vs := [.bool L, .slice ga2 ((K).length) ca2, .slice gb2 ((V).length) cb2]) (by kernel_rfl) (here (B4.part 0 3 _ rfl))) ?_
    refine s_do rfl rfl rfl (d_move rfl rfl) ?_
    refine s_call rfl rfl rfl rfl rfl (fun w => Try.call14 _ w) (find_c L _ _ K _ _ ((Oa2.ext0 x3).extb x4 (own_ne Oa2 (by omega))).rd) ?_
    rintro _ w6 ⟨rfl, x6⟩
    have m6 := x6.size
    refine s_do rfl rfl rfl (d_move rfl rfl) ?_
    refine s_do rfl rfl rfl (d_extract rfl rfl rfl) ?_
    refine s_do rfl rfl rfl (d_extract rfl rfl rfl) ?_
    refine s_do rfl rfl rfl (d_assign rfl rfl) ?_
    refine s_do rfl rfl rfl (d_assign rfl rfl) ?_
    refine s_end ?_
    refine k_seq ?_
    refine k_seq ?_
    refine s_region ?_
    refine s_do rfl rfl rfl (d_move rfl rfl) ?_
    refine s_do rfl rfl rfl (d_not_dec rfl rfl) ?_
    refine s_do rfl rfl rfl (d_move rfl rfl) ?_
    refine s_part 39 rfl (fun h3 => ?_) (fun h3 => ?_)
    · exact absurd q.hkey h3
    · -- no: ¬ (K[findN K key]? = some key)
      refine s_do rfl rfl rfl (d_field rfl (k := 2) (r := 2) (by kernel_rfl) rfl rfl) ?_
      refine s_do rfl rfl rfl (d_load rfl rfl (by kernel_rfl) (here ((B4.ext0 x6).cel 2 rfl))) ?_
      refine s_do rfl rfl rfl (d_move rfl rfl) ?_
      have hvat := RdI.get (((Ob2.ext0 x3).extb x4 (own_ne Ob2 (by omega))).ext0 x6).rd (q.hval)
      have lhvat := (List.getElem?_eq_some_iff.1 (q.hval)).1
      refine s_do rfl rfl rfl (d_indexE rfl (z := 1) (j := (findN K key)) (r := (findN K key)) (by kernel_rfl) rfl rfl rfl (by omega) hvat (by omega)) ?_
      refine s_do rfl rfl rfl (d_loadE rfl rfl (by kernel_rfl) (here (hvat))) ?_
      refine s_do rfl rfl rfl (d_move rfl rfl) ?_
      refine s_do rfl rfl rfl (d_neq rfl rfl rfl) ?_
      refine s_do rfl rfl rfl (d_pick_f rfl rfl rfl) ?_
      refine s_do rfl rfl rfl (d_move rfl rfl) ?_
      refine s_part 48 rfl (fun h4 => ?_) (fun h4 => ?_)
      · exact absurd rfl h4
      · -- no: (val : Int) ≠ val
        refine s_do rfl rfl rfl (d_loadAgg rfl rfl (vs := [.bool L, .slice ga2 ((K).length) ca2, .slice gb2 ((V).length) cb2]) (by kernel_rfl) (here ((B4.ext0 x6).part 0 3 _ rfl))) ?_
        refine s_call rfl rfl rfl rfl rfl (fun w => Try.call12 _ w) (check_c L _ _ K V _ (((Oa2.ext0 x3).extb x4 (own_ne Oa2 (by omega))).ext0 x6).rd (((Ob2.ext0 x3).extb x4 (own_ne Ob2 (by omega))).ext0 x6).rd) ?_
        rintro _ w7 ⟨rfl, x7⟩
        have m7 := x7.size
        refine s_do rfl rfl rfl (d_neq rfl rfl rfl) ?_
        refine s_do rfl rfl rfl (d_pick_f rfl rfl rfl) ?_
        refine s_end ?_
        refine k_dec rfl (fun h5 => ?_) (fun h5 => ?_)
        · exact absurd (no_of h5) (by rw [okB_t qo]; simp)
        · -- no: (errN (okB L K V) : Int) ≠ 0
          refine k_skip ?_
          refine k_seq ?_
          refine k_seq ?_
          refine s_region ?_
          refine s_do rfl rfl rfl (d_assign rfl rfl) ?_
          refine s_end ?_
          refine k_block ?_
          refine c_loop (σ := Nat) (fun k => [(11, .int .i64 (k : Int)), (1, .int .i64 key), (3, .pointer (some ⟨b1, 0, none⟩)), (7, .pointer (some ⟨b3, 0, none⟩)), (8, .int .i64 E), (9, .int .i64 (findN K key : Int)), (10, .bool (decide (K[findN K key]? = some key)))])
            (fun k wr => Ext No w7 wr ∧ (k ≤ ks.length)) (fun k => ks.length - k) 0
            (fun _ hF => (hF.cons (hF.cons (hF.cons (hF.cons (hF.cons (hF.cons (hF.cons hF.nil 10 _ _ rfl rfl) 9 _ _ rfl rfl) 8 _ _ rfl rfl) 7 _ _ rfl rfl) 3 _ _ rfl rfl) 1 _ _ rfl rfl) 11 _ _ rfl (by go_num))) ⟨Ext.refl _ _, by omega⟩ ?_
          rintro k wr8 ⟨x8, hI⟩
          have m8 := x8.size
          have hkl := hI
          refine k_seq ?_
          refine k_seq ?_
          refine s_region ?_
          refine s_do rfl rfl rfl (d_move rfl rfl) ?_
          refine s_do rfl rfl rfl (d_field rfl (k := 1) (r := 1) (by kernel_rfl) rfl rfl) ?_
          refine s_do rfl rfl rfl (d_load rfl rfl (by kernel_rfl) (here (((((((B1.ext0 x2).ext0 x3).ext x4 (show ¬ (b1 = b3) by omega)).ext0 x6).ext0 x7).ext0 x8).cel 1 rfl))) ?_
          refine s_do rfl rfl rfl (d_len rfl (z := 1) (by kernel_rfl) rfl) ?_
          refine s_do rfl rfl rfl (d_lss rfl rfl rfl) ?_
          refine s_end ?_
          refine k_dec rfl (fun h6 => ?_) (fun h6 => ?_)
          · -- yes: (k : Int) < (ks.length : Int)
            refine k_skip ?_
            refine k_seq ?_
            refine k_block ?_
            refine k_seq ?_
            refine q_region (Ext No wr8) (by kernel_rfl) (by kernel_rfl) ((Ext.refl _ _).drew) ?_
            refine q_do rfl rfl rfl (d_loadAgg rfl rfl (vs := [.bool L, .slice ga2 ((K).length) ca2, .slice gb2 ((V).length) cb2]) (by kernel_rfl) (fun _ hx => ((((B4.ext0 x6).ext0 x7).ext0 x8).ext0 hx).part 0 3 _ rfl)) ?_
            refine q_do rfl rfl rfl (d_field rfl (k := 1) (r := 1) (by kernel_rfl) rfl rfl) ?_
            refine q_do rfl rfl rfl (d_load rfl rfl (by kernel_rfl) (fun _ hx => (((((((B1.ext0 x2).ext0 x3).ext x4 (show ¬ (b1 = b3) by omega)).ext0 x6).ext0 x7).ext0 x8).ext0 hx).cel 1 rfl)) ?_
            refine q_do rfl rfl rfl (d_move rfl rfl) ?_
            obtain ⟨x, hx⟩ : ∃ x, ks[k]? = some x := ⟨_, List.getElem?_eq_getElem (by omega)⟩
            have hat := hc _ _ hx
            obtain ⟨y, hy⟩ : ∃ x, vs[k]? = some x := ⟨_, List.getElem?_eq_getElem (by omega)⟩
            have hbt := hd _ _ hy
            refine q_do rfl rfl rfl (d_indexE rfl (z := 1) (j := k) (r := k) (by kernel_rfl) rfl rfl rfl (by omega) hat (by omega)) ?_
            refine q_do rfl rfl rfl (d_loadE rfl rfl (by kernel_rfl) (fun _ hx => ((hat.ext0 ((((((((Ext.refl No w).trans x1).trans x2).trans x3).trans_new x4 (fun i hi => by subst hi; omega)).trans x6).trans x7).trans x8)).ext0 hx))) ?_
            refine q_call rfl rfl rfl rfl rfl (fun w => Try.call14 _ w) (v := .tuple #[.int .i64 (findN K x : Int), .bool (decide (K[findN K x]? = some x))]) (fun _ hx => q_ok hx (find_c L _ _ K _ _ ((((((Oa2.ext0 x3).extb x4 (own_ne Oa2 (by omega))).ext0 x6).ext0 x7).ext0 x8).ext0 hx).rd)) ?_
            refine q_do rfl rfl rfl (d_move rfl rfl) ?_
            refine q_do rfl rfl rfl (d_extract rfl rfl rfl) ?_
            refine q_do rfl rfl rfl (d_extract rfl rfl rfl) ?_
            refine q_do rfl rfl rfl (d_assign rfl rfl) ?_
            refine q_do rfl rfl rfl (d_assign rfl rfl) ?_
            refine q_end (fun w9 x9 => ?_)
            have m9 := x9.size
            refine k_seq ?_
            refine q_region (Ext No w9) (by kernel_rfl) (by kernel_rfl) ((Ext.refl _ _).drew) ?_
            refine q_do rfl rfl rfl (d_move rfl rfl) ?_
            refine q_do rfl rfl rfl (d_not_dec rfl rfl) ?_
            refine q_do rfl rfl rfl (d_move rfl rfl) ?_
            refine q_part 72 rfl (fun h7 => ?_) (fun h7 => ?_)
            · exact absurd (q.rest k x y hx hy).1 h7
            · -- no: ¬ (K[findN K x]? = some x)
              refine q_do rfl rfl rfl (d_field rfl (k := 1) (r := 1) (by kernel_rfl) rfl rfl) ?_
              refine q_do rfl rfl rfl (d_load rfl rfl (by kernel_rfl) (fun _ hx => ((((((((B1.ext0 x2).ext0 x3).ext x4 (show ¬ (b1 = b3) by omega)).ext0 x6).ext0 x7).ext0 x8).ext0 x9).ext0 hx).cel 1 rfl)) ?_
              refine q_do rfl rfl rfl (d_move rfl rfl) ?_
              refine q_do rfl rfl rfl (d_indexE rfl (z := 1) (j := k) (r := k) (by kernel_rfl) rfl rfl rfl (by omega) hat (by omega)) ?_
              refine q_do rfl rfl rfl (d_loadE rfl rfl (by kernel_rfl) (fun _ hx => ((hat.ext0 (((((((((Ext.refl No w).trans x1).trans x2).trans x3).trans_new x4 (fun i hi => by subst hi; omega)).trans x6).trans x7).trans x8).trans x9)).ext0 hx))) ?_
              refine q_do rfl rfl rfl (d_move rfl rfl) ?_
              refine q_do rfl rfl rfl (d_neq rfl rfl rfl) ?_
              refine q_do rfl rfl rfl (d_move rfl rfl) ?_
              refine q_part 80 rfl (fun h8 => ?_) (fun h8 => ?_)
              · -- yes: (x : Int) ≠ key
                have hne := h8
                refine q_do rfl rfl rfl (d_field rfl (k := 2) (r := 2) (by kernel_rfl) rfl rfl) ?_
                refine q_do rfl rfl rfl (d_load rfl rfl (by kernel_rfl) (fun _ hx => (((((B4.ext0 x6).ext0 x7).ext0 x8).ext0 x9).ext0 hx).cel 2 rfl)) ?_
                refine q_do rfl rfl rfl (d_move rfl rfl) ?_
                have hvy := RdI.get ((((((Ob2.ext0 x3).extb x4 (own_ne Ob2 (by omega))).ext0 x6).ext0 x7).ext0 x8).ext0 x9).rd ((q.rest k x y hx hy).2 hne)
                have lhvy := (List.getElem?_eq_some_iff.1 ((q.rest k x y hx hy).2 hne)).1
                refine q_do rfl rfl rfl (d_indexE rfl (z := 1) (j := (findN K x)) (r := (findN K x)) (by kernel_rfl) rfl rfl rfl (by omega) hvy (by omega)) ?_
                refine q_do rfl rfl rfl (d_loadE rfl rfl (by kernel_rfl) (fun _ hx => (hvy.ext0 hx))) ?_
                refine q_do rfl rfl rfl (d_field rfl (k := 2) (r := 2) (by kernel_rfl) rfl rfl) ?_
                refine q_do rfl rfl rfl (d_load rfl rfl (by kernel_rfl) (fun _ hx => ((((((((B1.ext0 x2).ext0 x3).ext x4 (show ¬ (b1 = b3) by omega)).ext0 x6).ext0 x7).ext0 x8).ext0 x9).ext0 hx).cel 2 rfl)) ?_
                refine q_do rfl rfl rfl (d_move rfl rfl) ?_
                refine q_do rfl rfl rfl (d_indexE rfl (z := 1) (j := k) (r := k) (by kernel_rfl) rfl rfl rfl (by omega) hbt (by omega)) ?_
                refine q_do rfl rfl rfl (d_loadE rfl rfl (by kernel_rfl) (fun _ hx => ((hbt.ext0 (((((((((Ext.refl No w).trans x1).trans x2).trans x3).trans_new x4 (fun i hi => by subst hi; omega)).trans x6).trans x7).trans x8).trans x9)).ext0 hx))) ?_
                refine q_do rfl rfl rfl (d_neq rfl rfl rfl) ?_
                refine q_do rfl rfl rfl (d_pick_t rfl rfl rfl) ?_
                refine q_do rfl rfl rfl (d_pick_f rfl rfl rfl) ?_
                refine q_end (fun w10 x10 => ?_)
                have m10 := x10.size
                refine k_dec rfl (fun h9 => ?_) (fun h9 => ?_)
                · exact absurd rfl h9
                · -- no: (y : Int) ≠ y
                  refine k_skip ?_
                  refine s_region ?_
                  refine s_do rfl rfl rfl (d_move rfl rfl) ?_
                  refine s_do rfl rfl rfl (d_add64 rfl rfl rfl (r := (k : Int) + 1) (by omega) (by omega)) ?_
                  refine s_do rfl rfl rfl (d_assign rfl rfl) ?_
                  refine s_end ?_
                  intro _ hF
                  refine ⟨(k + 1), (hF.cons (hF.cons (hF.cons (hF.cons (hF.cons (hF.cons (hF.cons hF.nil 10 _ _ rfl rfl) 9 _ _ rfl rfl) 8 _ _ rfl rfl) 7 _ _ rfl rfl) 3 _ _ rfl rfl) 1 _ _ rfl rfl) 11 _ _ rfl (by go_num)), ⟨((x8.trans x9).trans x10), ?_⟩, ?_⟩
                  · exact by omega
                  · omega
              · -- no: (x : Int) ≠ key
                refine q_skip rfl rfl rfl ?_
                refine q_skip rfl rfl rfl ?_
                refine q_skip rfl rfl rfl ?_
                refine q_skip rfl rfl rfl ?_
                refine q_skip rfl rfl rfl ?_
                refine q_skip rfl rfl rfl ?_
                refine q_skip rfl rfl rfl ?_
                refine q_skip rfl rfl rfl ?_
                refine q_skip rfl rfl rfl ?_
                refine q_skip rfl rfl rfl ?_
                refine q_skip rfl rfl rfl ?_
                refine q_do rfl rfl rfl (d_pick_f rfl rfl rfl) ?_
                refine q_do rfl rfl rfl (d_pick_f rfl rfl rfl) ?_
                refine q_end (fun w11 x11 => ?_)
                have m11 := x11.size
                refine k_false rfl ?_
                refine k_skip ?_
                refine s_region ?_
                refine s_do rfl rfl rfl (d_move rfl rfl) ?_
                refine s_do rfl rfl rfl (d_add64 rfl rfl rfl (r := (k : Int) + 1) (by omega) (by omega)) ?_
                refine s_do rfl rfl rfl (d_assign rfl rfl) ?_
                refine s_end ?_
                intro _ hF
                refine ⟨(k + 1), (hF.cons (hF.cons (hF.cons (hF.cons (hF.cons (hF.cons (hF.cons hF.nil 10 _ _ rfl rfl) 9 _ _ rfl rfl) 8 _ _ rfl rfl) 7 _ _ rfl rfl) 3 _ _ rfl rfl) 1 _ _ rfl rfl) 11 _ _ rfl (by go_num)), ⟨((x8.trans x9).trans x11), ?_⟩, ?_⟩
                · exact by omega
                · omega
          · -- no: (k : Int) < (ks.length : Int)
            refine k_exit ?_
            refine k_here ?_
            refine k_seq ?_
            refine s_region ?_
            refine s_do rfl rfl rfl (d_loadAgg rfl rfl (vs := [.bool L, .slice ga2 ((K).length) ca2, .slice gb2 ((V).length) cb2]) (by kernel_rfl) (here ((((B4.ext0 x6).ext0 x7).ext0 x8).part 0 3 _ rfl))) ?_
            refine s_do rfl rfl rfl (d_move rfl rfl) ?_
            have c13_2 := drop_c L (.slice ga2 ((K).length) ca2) (.slice gb2 ((V).length) cb2) K V (findN K key : Int) wr8 (((((Oa2.ext0 x3).extb x4 (own_ne Oa2 (by omega))).ext0 x6).ext0 x7).ext0 x8).rd (((((Ob2.ext0 x3).extb x4 (own_ne Ob2 (by omega))).ext0 x6).ext0 x7).ext0 x8).rd
            rw [hd2] at c13_2; dsimp only at c13_2
            refine s_call rfl rfl rfl rfl rfl (fun w => Try.call21 _ w) (c13_2) ?_
            rintro _ w12 ⟨_, rfl, ⟨ga12, ca12, gb12, cb12, rfl, Oa12, Ob12, Ap12⟩, x12⟩
            have m12 := x12.size
            clear c13_2
            refine s_do rfl rfl rfl (d_move rfl rfl) ?_
            refine s_do rfl rfl rfl (d_extract rfl rfl rfl) ?_
            refine s_do rfl rfl rfl (d_extract rfl rfl rfl) ?_
            refine s_go rfl rfl rfl (g_alloc (P := Try.prog) rfl (zs := [.bool false, .slice none 0 0, .slice none 0 0]) (by kernel_rfl)) ?_
            rintro _ w13 ⟨b13, rfl, s13, t13, B13, x13⟩
            refine s_put rfl rfl (p_store rfl rfl rfl (vs := [.bool L2, .slice ga12 ((K2).length) ca12, .slice gb12 ((V2).length) cb12]) rfl (by simp [Value.oneCell']) (by kernel_rfl) (B13) (by simp) (out := [.bool L2, .slice ga12 ((K2).length) ca12, .slice gb12 ((V2).length) cb12]) rfl) ?_
            rintro w14 ⟨B14, x14, t14⟩
            refine s_do rfl rfl rfl (d_assign rfl rfl) ?_
            refine s_end ?_
            refine k_seq ?_
            refine k_seq ?_
            refine s_region ?_
            refine s_do rfl rfl rfl (d_move rfl rfl) ?_
            refine s_do rfl rfl rfl (d_neq rfl rfl rfl) ?_
            refine s_end ?_
            refine k_dec rfl (fun h10 => ?_) (fun h10 => ?_)
            · -- yes: (E2 : Int) ≠ 0
              have hE2 := d1 h10
              refine k_seq ?_
              refine s_region ?_
              refine s_do rfl rfl rfl (d_field rfl (k := 0) (r := 0) (by kernel_rfl) rfl rfl) ?_
              refine s_do rfl rfl rfl (d_load rfl rfl (by kernel_rfl) (here ((((((((((B1.ext0 x2).ext0 x3).ext x4 (show ¬ (b1 = b3) by omega)).ext0 x6).ext0 x7).ext0 x8).ext0 x12).ext0 x13).ext x14 (show ¬ (b1 = b13) by omega)).cel 0 rfl))) ?_
              refine s_do rfl rfl rfl (d_not rfl rfl) ?_
              refine s_do rfl rfl rfl (d_move rfl rfl) ?_
              refine s_part_b 105 rfl (fun h11 => ?_) (fun h11 => ?_)
              · -- yes: (!lf)
                refine s_do rfl rfl rfl (d_field rfl (k := 1) (r := 1) (by kernel_rfl) rfl rfl) ?_
                refine s_do rfl rfl rfl (d_load rfl rfl (by kernel_rfl) (here (((((((B4.ext0 x6).ext0 x7).ext0 x8).ext0 x12).ext0 x13).ext x14 (show ¬ (b3 = b13) by omega)).cel 1 rfl))) ?_
                refine s_do rfl rfl rfl (d_len rfl (z := 1) (by kernel_rfl) rfl) ?_
                refine s_do rfl rfl rfl (d_eql rfl rfl rfl) ?_
                refine s_do rfl rfl rfl (d_pick_t rfl rfl rfl) ?_
                refine s_do rfl rfl rfl (d_move rfl rfl) ?_
                refine s_part 111 rfl (fun h12 => ?_) (fun h12 => ?_)
                · -- yes: ((K).length : Int) = 1
                  refine s_call rfl rfl rfl rfl rfl (fun w => Try.call13 _ w) (lives_c _) ?_
                  rintro _ w15 ⟨rfl, x15⟩
                  have m15 := x15.size
                  refine s_do rfl rfl rfl (d_pick_t rfl rfl rfl) ?_
                  refine s_do rfl rfl rfl (d_assign rfl rfl) ?_
                  refine s_end ?_
                  refine k_ret ?_
                  refine doneL rfl [.bool true] ⟨rfl, trivial⟩ (v := .bool true) rfl ?_
                  have X := ((((((((((((Ext.refl No w).trans x1).trans x2).trans x3).trans_new x4 (fun i hi => by subst hi; omega)).trans x6).trans x7).trans x8).trans x12).trans x13).trans_new x14 (fun i hi => by subst hi; omega)).trans x15)
                  exact ⟨by simp, X⟩
                · exfalso; omega
              · exfalso; rw [← q.leaf, hE2.1] at h11; simp at h11
            · -- no: (E2 : Int) ≠ 0
              obtain ⟨f1, f2, f3, f4⟩ := d2 (by omega)
              have hgone := drop_gone qo.2.2.2.2 (findN K key) key q.hkey
              refine k_skip ?_
              refine k_seq ?_
              refine s_region ?_
              refine s_do rfl rfl rfl (d_loadAgg rfl rfl (vs := [.bool L2, .slice ga12 ((K2).length) ca12, .slice gb12 ((V2).length) cb12]) (by kernel_rfl) (here (B14.part 0 3 _ rfl))) ?_
              refine s_do rfl rfl rfl (d_move rfl rfl) ?_
              refine s_call rfl rfl rfl rfl rfl (fun w => Try.call14 _ w) (find_c L2 _ _ K2 _ _ ((Oa12.ext0 x13).extb x14 (own_ne Oa12 (by omega))).rd) ?_
              rintro _ w16 ⟨rfl, x16⟩
              have m16 := x16.size
              refine s_do rfl rfl rfl (d_move rfl rfl) ?_
              refine s_do rfl rfl rfl (d_extract rfl rfl rfl) ?_
              refine s_do rfl rfl rfl (d_extract rfl rfl rfl) ?_
              refine s_do rfl rfl rfl (d_assign rfl rfl) ?_
              refine s_end ?_
              refine k_seq ?_
              refine s_region ?_
              refine s_do rfl rfl rfl (d_move rfl rfl) ?_
              refine s_do rfl rfl rfl (d_not_dec rfl rfl) ?_
              refine s_do rfl rfl rfl (d_move rfl rfl) ?_
              refine s_part 122 rfl (fun h13 => ?_) (fun h13 => ?_)
              · -- yes: ¬ (K2[findN K2 key]? = some key)
                refine s_do rfl rfl rfl (d_field rfl (k := 1) (r := 1) (by kernel_rfl) rfl rfl) ?_
                refine s_do rfl rfl rfl (d_load rfl rfl (by kernel_rfl) (here ((B14.ext0 x16).cel 1 rfl))) ?_
                refine s_do rfl rfl rfl (d_len rfl (z := 1) (by kernel_rfl) rfl) ?_
                refine s_do rfl rfl rfl (d_field rfl (k := 1) (r := 1) (by kernel_rfl) rfl rfl) ?_
                refine s_do rfl rfl rfl (d_load rfl rfl (by kernel_rfl) (here ((((((((B4.ext0 x6).ext0 x7).ext0 x8).ext0 x12).ext0 x13).ext x14 (show ¬ (b3 = b13) by omega)).ext0 x16).cel 1 rfl))) ?_
                refine s_do rfl rfl rfl (d_len rfl (z := 1) (by kernel_rfl) rfl) ?_
                refine s_do rfl rfl rfl (d_sub64 rfl rfl rfl (r := ((K).length : Int) - 1) (by omega) (by omega)) ?_
                refine s_do rfl rfl rfl (d_eql rfl rfl rfl) ?_
                refine s_do rfl rfl rfl (d_pick_t rfl rfl rfl) ?_
                refine s_do rfl rfl rfl (d_move rfl rfl) ?_
                refine s_part 132 rfl (fun h14 => ?_) (fun h14 => ?_)
                · -- yes: ((K2).length : Int) = (((K).length : Int) - 1)
                  refine s_do rfl rfl rfl (d_loadAgg rfl rfl (vs := [.bool L2, .slice ga12 ((K2).length) ca12, .slice gb12 ((V2).length) cb12]) (by kernel_rfl) (here ((B14.ext0 x16).part 0 3 _ rfl))) ?_
                  refine s_call rfl rfl rfl rfl rfl (fun w => Try.call12 _ w) (check_c L2 _ _ K2 V2 _ (((Oa12.ext0 x13).extb x14 (own_ne Oa12 (by omega))).ext0 x16).rd (((Ob12.ext0 x13).extb x14 (own_ne Ob12 (by omega))).ext0 x16).rd) ?_
                  rintro _ w17 ⟨rfl, x17⟩
                  have m17 := x17.size
                  refine s_do rfl rfl rfl (d_eql rfl rfl rfl) ?_
                  refine s_do rfl rfl rfl (d_pick_t rfl rfl rfl) ?_
                  refine s_do rfl rfl rfl (d_move rfl rfl) ?_
                  refine s_part 137 rfl (fun h15 => ?_) (fun h15 => ?_)
                  · -- yes: (errN (okB L2 K2 V2) : Int) = 0
                    refine s_call rfl rfl rfl rfl rfl (fun w => Try.call13 _ w) (lives_c _) ?_
                    rintro _ w18 ⟨rfl, x18⟩
                    have m18 := x18.size
                    refine s_do rfl rfl rfl (d_pick_t rfl rfl rfl) ?_
                    refine s_do rfl rfl rfl (d_assign rfl rfl) ?_
                    refine s_end ?_
                    refine k_ret ?_
                    refine doneL rfl [.bool true] ⟨rfl, trivial⟩ (v := .bool true) rfl ?_
                    have X := ((((((((((((((Ext.refl No w).trans x1).trans x2).trans x3).trans_new x4 (fun i hi => by subst hi; omega)).trans x6).trans x7).trans x8).trans x12).trans x13).trans_new x14 (fun i hi => by subst hi; omega)).trans x16).trans x17).trans x18)
                    exact ⟨by simp, X⟩
                  · exfalso; rw [f1, f2, f3, f4] at h15; exact h15 rfl
                · exfalso; rw [f2, List.length_eraseIdx_of_lt hfk] at h14; omega
              · exfalso; exact h13 (by rw [f2]; exact hgone _)
end Go.Proofs.Yteehoppklgcggaa
