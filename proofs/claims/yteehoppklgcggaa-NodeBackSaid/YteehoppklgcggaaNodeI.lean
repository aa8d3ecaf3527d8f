/-
  Walks of the laws of package node: halves. No condition.
-/
import Derived.Test.YteehoppklgcggaaNodeH
import Derived.Test.YteehoppklgcggaaNodeD
import Derived.Test.YteehoppklgcggaaNodeP
set_option maxRecDepth 100000
namespace Go.Proofs.Yteehoppklgcggaa
open Go.RowKit
theorem halves_law_c (lf lf2 : Bool) (kv vv kv2 vv2 : Value) (ks vs ks2 vs2 : List Int) (w : World) (hk : RdI kv ks w) (hv : RdI vv vs w) (hk2 : RdI kv2 ks2 w) (hv2 : RdI vv2 vs2 w) :
    Calls Try.prog 9 #[.agg #[.bool lf, kv, vv], .agg #[.bool lf2, kv2, vv2]] w (Ret fun v w' => v = .bool true ∧ Ext No w w') := by
  have hk0 := hk; have hv0 := hv
  obtain ⟨ka, kc, rfl, hkc, hkm, hc⟩ := hk0.opened
  obtain ⟨va, vc, rfl, hvc, hvm, hd⟩ := hv0.opened
  have hk02 := hk2; have hv02 := hv2
  obtain ⟨ka2, kc2, rfl, hkc2, hkm2, hc2⟩ := hk02.opened
  obtain ⟨va2, vc2, rfl, hvc2, hvm2, hd2⟩ := hv02.opened
  refine enter Try.func9 rfl 101 Try.ntmps9 rfl ?_
  refine k_seq ?_
  refine s_region ?_
  refine s_go rfl rfl rfl (g_box rfl rfl rfl) ?_
  rintro _ w1 ⟨b1, rfl, s1, t1, B1, x1⟩
  refine s_go rfl rfl rfl (g_box rfl rfl rfl) ?_
  rintro _ w2 ⟨b2, rfl, s2, t2, B2, x2⟩
  refine s_do rfl rfl rfl (d_assign rfl rfl) ?_
  refine s_end ?_
  refine k_seq ?_
  refine s_region ?_
  refine s_do rfl rfl rfl (d_loadAgg rfl rfl (vs := [.bool lf, .slice ka ks.length kc, .slice va vs.length vc]) (by kernel_rfl) (here ((B1.ext0 x2).part 0 3 _ rfl))) ?_
  refine s_call rfl rfl rfl rfl rfl (fun w => Try.call23 _ w) (split_c lf (.slice ka ks.length kc) (.slice va vs.length vc) ks vs w2 ((hk.ext0 x1).ext0 x2) ((hv.ext0 x1).ext0 x2)) ?_
  rintro _ w3 ⟨_, _, rfl, ⟨ga3, ca3, gb3, cb3, rfl, Oa3, Ob3, Ap3⟩, ⟨gc3, cc3, gd3, cd3, rfl, Oc3, Od3, Aq3⟩, Ax3, x3⟩
  have m3 := x3.size
  obtain ⟨Aac3, Aad3, Abc3, Abd3⟩ := Ax3 _ _ _ _ _ _ rfl rfl
  refine s_do rfl rfl rfl (d_move rfl rfl) ?_
  refine s_do rfl rfl rfl (d_extract rfl rfl rfl) ?_
  refine s_do rfl rfl rfl (d_extract rfl rfl rfl) ?_
  refine s_do rfl rfl rfl (d_extract rfl rfl rfl) ?_
  refine s_go rfl rfl rfl (g_alloc (P := Try.prog) rfl (zs := [.bool false, .slice none 0 0, .slice none 0 0]) (by kernel_rfl)) ?_
  rintro _ w4 ⟨b4, rfl, s4, t4, B4, x4⟩
  refine s_go rfl rfl rfl (g_alloc (P := Try.prog) rfl (zs := [.bool false, .slice none 0 0, .slice none 0 0]) (by kernel_rfl)) ?_
  rintro _ w5 ⟨b5, rfl, s5, t5, B5, x5⟩
  refine s_put rfl rfl (p_store rfl rfl rfl (vs := [.bool ((splitN lf ks vs).1.1), .slice ga3 (((splitN lf ks vs).1.2.1).length) ca3, .slice gb3 (((splitN lf ks vs).1.2.2).length) cb3]) rfl (by simp [Value.oneCell']) (by kernel_rfl) ((B4.ext0 x5)) (by simp) (out := [.bool ((splitN lf ks vs).1.1), .slice ga3 (((splitN lf ks vs).1.2.1).length) ca3, .slice gb3 (((splitN lf ks vs).1.2.2).length) cb3]) rfl) ?_
  rintro w6 ⟨B6, x6, t6⟩
  refine s_put rfl rfl (p_store rfl rfl rfl (vs := [.bool ((splitN lf ks vs).2.1.1), .slice gc3 (((splitN lf ks vs).2.1.2.1).length) cc3, .slice gd3 (((splitN lf ks vs).2.1.2.2).length) cd3]) rfl (by simp [Value.oneCell']) (by kernel_rfl) ((B5.ext x6 (show ¬ (b5 = b4) by omega))) (by simp) (out := [.bool ((splitN lf ks vs).2.1.1), .slice gc3 (((splitN lf ks vs).2.1.2.1).length) cc3, .slice gd3 (((splitN lf ks vs).2.1.2.2).length) cd3]) rfl) ?_
  rintro w7 ⟨B7, x7, t7⟩
  refine s_do rfl rfl rfl (d_assign rfl rfl) ?_
  refine s_end ?_
  refine k_seq ?_
  refine s_region ?_
  refine s_do rfl rfl rfl (d_loadAgg rfl rfl (vs := [.bool lf, .slice ka ks.length kc, .slice va vs.length vc]) (by kernel_rfl) (here (((((((B1.ext0 x2).ext0 x3).ext0 x4).ext0 x5).ext x6 (show ¬ (b1 = b4) by omega)).ext x7 (show ¬ (b1 = b5) by omega)).part 0 3 _ rfl))) ?_
  refine s_call rfl rfl rfl rfl rfl (fun w => Try.call24 _ w) (rsplit_c lf (.slice ka ks.length kc) (.slice va vs.length vc) ks vs w7 (hk.ext0 ((((((((Ext.refl No w).trans x1).trans x2).trans x3).trans x4).trans x5).trans_new x6 (fun i hi => by subst hi; omega)).trans_new x7 (fun i hi => by subst hi; omega))) (hv.ext0 ((((((((Ext.refl No w).trans x1).trans x2).trans x3).trans x4).trans x5).trans_new x6 (fun i hi => by subst hi; omega)).trans_new x7 (fun i hi => by subst hi; omega)))) ?_
  rintro _ w8 ⟨_, _, rfl, ⟨ga8, ca8, gb8, cb8, rfl, Oa8, Ob8, Ap8⟩, ⟨gc8, cc8, gd8, cd8, rfl, Oc8, Od8, Aq8⟩, Ax8, x8⟩
  have m8 := x8.size
  obtain ⟨Aac8, Aad8, Abc8, Abd8⟩ := Ax8 _ _ _ _ _ _ rfl rfl
  refine s_do rfl rfl rfl (d_move rfl rfl) ?_
  refine s_do rfl rfl rfl (d_extract rfl rfl rfl) ?_
  refine s_do rfl rfl rfl (d_extract rfl rfl rfl) ?_
  refine s_do rfl rfl rfl (d_extract rfl rfl rfl) ?_
  refine s_go rfl rfl rfl (g_alloc (P := Try.prog) rfl (zs := [.bool false, .slice none 0 0, .slice none 0 0]) (by kernel_rfl)) ?_
  rintro _ w9 ⟨b9, rfl, s9, t9, B9, x9⟩
  refine s_go rfl rfl rfl (g_alloc (P := Try.prog) rfl (zs := [.bool false, .slice none 0 0, .slice none 0 0]) (by kernel_rfl)) ?_
  rintro _ w10 ⟨b10, rfl, s10, t10, B10, x10⟩
  refine s_put rfl rfl (p_store rfl rfl rfl (vs := [.bool ((splitN lf ks vs).1.1), .slice ga8 (((splitN lf ks vs).1.2.1).length) ca8, .slice gb8 (((splitN lf ks vs).1.2.2).length) cb8]) rfl (by simp [Value.oneCell']) (by kernel_rfl) ((B9.ext0 x10)) (by simp) (out := [.bool ((splitN lf ks vs).1.1), .slice ga8 (((splitN lf ks vs).1.2.1).length) ca8, .slice gb8 (((splitN lf ks vs).1.2.2).length) cb8]) rfl) ?_
  rintro w11 ⟨B11, x11, t11⟩
  refine s_put rfl rfl (p_store rfl rfl rfl (vs := [.bool ((splitN lf ks vs).2.1.1), .slice gc8 (((splitN lf ks vs).2.1.2.1).length) cc8, .slice gd8 (((splitN lf ks vs).2.1.2.2).length) cd8]) rfl (by simp [Value.oneCell']) (by kernel_rfl) ((B10.ext x11 (show ¬ (b10 = b9) by omega))) (by simp) (out := [.bool ((splitN lf ks vs).2.1.1), .slice gc8 (((splitN lf ks vs).2.1.2.1).length) cc8, .slice gd8 (((splitN lf ks vs).2.1.2.2).length) cd8]) rfl) ?_
  rintro w12 ⟨B12, x12, t12⟩
  refine s_do rfl rfl rfl (d_assign rfl rfl) ?_
  refine s_end ?_
  refine k_seq ?_
  refine s_region ?_
  refine s_do rfl rfl rfl (d_loadAgg rfl rfl (vs := [.bool ((splitN lf ks vs).1.1), .slice ga3 (((splitN lf ks vs).1.2.1).length) ca3, .slice gb3 (((splitN lf ks vs).1.2.2).length) cb3]) (by kernel_rfl) (here (((((((B6.ext x7 (show ¬ (b4 = b5) by omega)).ext0 x8).ext0 x9).ext0 x10).ext x11 (show ¬ (b4 = b9) by omega)).ext x12 (show ¬ (b4 = b10) by omega)).part 0 3 _ rfl))) ?_
  refine s_do rfl rfl rfl (d_loadAgg rfl rfl (vs := [.bool ((splitN lf ks vs).1.1), .slice ga8 (((splitN lf ks vs).1.2.1).length) ca8, .slice gb8 (((splitN lf ks vs).1.2.2).length) cb8]) (by kernel_rfl) (here ((B11.ext x12 (show ¬ (b9 = b10) by omega)).part 0 3 _ rfl))) ?_
  refine s_call rfl rfl rfl rfl rfl (fun w => Try.call20 _ w) (same_c ((splitN lf ks vs).1.1) ((splitN lf ks vs).1.1) _ _ _ _ ((splitN lf ks vs).1.2.1) ((splitN lf ks vs).1.2.2) ((splitN lf ks vs).1.2.1) ((splitN lf ks vs).1.2.2) _ (((((((((Oa3.ext0 x4).ext0 x5).extb x6 (own_ne Oa3 (by omega))).extb x7 (own_ne Oa3 (by omega))).ext0 x8).ext0 x9).ext0 x10).extb x11 (own_ne Oa3 (by omega))).extb x12 (own_ne Oa3 (by omega))).rd (((((((((Ob3.ext0 x4).ext0 x5).extb x6 (own_ne Ob3 (by omega))).extb x7 (own_ne Ob3 (by omega))).ext0 x8).ext0 x9).ext0 x10).extb x11 (own_ne Ob3 (by omega))).extb x12 (own_ne Ob3 (by omega))).rd ((((Oa8.ext0 x9).ext0 x10).extb x11 (own_ne Oa8 (by omega))).extb x12 (own_ne Oa8 (by omega))).rd ((((Ob8.ext0 x9).ext0 x10).extb x11 (own_ne Ob8 (by omega))).extb x12 (own_ne Ob8 (by omega))).rd) ?_
  rintro _ w13 ⟨rfl, x13⟩
  have m13 := x13.size
  refine s_do rfl rfl rfl (d_assign rfl rfl) ?_
  refine s_end ?_
  refine k_seq ?_
  refine s_region ?_
  refine s_do rfl rfl rfl (d_loadAgg rfl rfl (vs := [.bool ((splitN lf ks vs).2.1.1), .slice gc3 (((splitN lf ks vs).2.1.2.1).length) cc3, .slice gd3 (((splitN lf ks vs).2.1.2.2).length) cd3]) (by kernel_rfl) (here (((((((B7.ext0 x8).ext0 x9).ext0 x10).ext x11 (show ¬ (b5 = b9) by omega)).ext x12 (show ¬ (b5 = b10) by omega)).ext0 x13).part 0 3 _ rfl))) ?_
  refine s_do rfl rfl rfl (d_loadAgg rfl rfl (vs := [.bool ((splitN lf ks vs).2.1.1), .slice gc8 (((splitN lf ks vs).2.1.2.1).length) cc8, .slice gd8 (((splitN lf ks vs).2.1.2.2).length) cd8]) (by kernel_rfl) (here ((B12.ext0 x13).part 0 3 _ rfl))) ?_
  refine s_call rfl rfl rfl rfl rfl (fun w => Try.call20 _ w) (same_c ((splitN lf ks vs).2.1.1) ((splitN lf ks vs).2.1.1) _ _ _ _ ((splitN lf ks vs).2.1.2.1) ((splitN lf ks vs).2.1.2.2) ((splitN lf ks vs).2.1.2.1) ((splitN lf ks vs).2.1.2.2) _ ((((((((((Oc3.ext0 x4).ext0 x5).extb x6 (own_ne Oc3 (by omega))).extb x7 (own_ne Oc3 (by omega))).ext0 x8).ext0 x9).ext0 x10).extb x11 (own_ne Oc3 (by omega))).extb x12 (own_ne Oc3 (by omega))).ext0 x13).rd ((((((((((Od3.ext0 x4).ext0 x5).extb x6 (own_ne Od3 (by omega))).extb x7 (own_ne Od3 (by omega))).ext0 x8).ext0 x9).ext0 x10).extb x11 (own_ne Od3 (by omega))).extb x12 (own_ne Od3 (by omega))).ext0 x13).rd (((((Oc8.ext0 x9).ext0 x10).extb x11 (own_ne Oc8 (by omega))).extb x12 (own_ne Oc8 (by omega))).ext0 x13).rd (((((Od8.ext0 x9).ext0 x10).extb x11 (own_ne Od8 (by omega))).extb x12 (own_ne Od8 (by omega))).ext0 x13).rd) ?_
  rintro _ w14 ⟨rfl, x14⟩
  have m14 := x14.size
  refine s_do rfl rfl rfl (d_assign rfl rfl) ?_
  refine s_end ?_
  refine k_seq ?_
  refine k_seq ?_
  refine s_region ?_
  refine s_do rfl rfl rfl (d_move rfl rfl) ?_
  refine s_do rfl rfl rfl (d_not_dec rfl rfl) ?_
  refine s_do rfl rfl rfl (d_move rfl rfl) ?_
  refine s_part 38 rfl (fun h1 => ?_) (fun h1 => ?_)
  · exact absurd ⟨rfl, rfl, rfl⟩ h1
  · -- no: ¬ (((splitN lf ks vs).1.1) = ((splitN lf ks vs).1.1) ∧ ((splitN lf ks vs).1.2.1) = ((splitN lf ks vs).1.2.1) ∧ ((splitN lf ks vs).1.2.2) = ((splitN lf ks vs).1.2.2))
    refine s_do rfl rfl rfl (d_move rfl rfl) ?_
    refine s_do rfl rfl rfl (d_not_dec rfl rfl) ?_
    refine s_do rfl rfl rfl (d_pick_f rfl rfl rfl) ?_
    refine s_do rfl rfl rfl (d_move rfl rfl) ?_
    refine s_part 42 rfl (fun h2 => ?_) (fun h2 => ?_)
    · exact absurd ⟨rfl, rfl, rfl⟩ h2
    · -- no: ¬ (((splitN lf ks vs).2.1.1) = ((splitN lf ks vs).2.1.1) ∧ ((splitN lf ks vs).2.1.2.1) = ((splitN lf ks vs).2.1.2.1) ∧ ((splitN lf ks vs).2.1.2.2) = ((splitN lf ks vs).2.1.2.2))
      refine s_do rfl rfl rfl (d_move rfl rfl) ?_
      refine s_do rfl rfl rfl (d_move rfl rfl) ?_
      refine s_do rfl rfl rfl (d_neq rfl rfl rfl) ?_
      refine s_do rfl rfl rfl (d_pick_f rfl rfl rfl) ?_
      refine s_end ?_
      refine k_dec rfl (fun h3 => ?_) (fun h3 => ?_)
      · exact absurd rfl h3
      · -- no: ((splitN lf ks vs).2.2 : Int) ≠ ((splitN lf ks vs).2.2)
        refine k_skip ?_
        refine k_seq ?_
        refine s_region ?_
        refine s_do rfl rfl rfl (d_loadAgg rfl rfl (vs := [.bool lf, .slice ka ks.length kc, .slice va vs.length vc]) (by kernel_rfl) (here ((((((((((((((B1.ext0 x2).ext0 x3).ext0 x4).ext0 x5).ext x6 (show ¬ (b1 = b4) by omega)).ext x7 (show ¬ (b1 = b5) by omega)).ext0 x8).ext0 x9).ext0 x10).ext x11 (show ¬ (b1 = b9) by omega)).ext x12 (show ¬ (b1 = b10) by omega)).ext0 x13).ext0 x14).part 0 3 _ rfl))) ?_
        refine s_do rfl rfl rfl (d_loadAgg rfl rfl (vs := [.bool lf2, .slice ka2 ks2.length kc2, .slice va2 vs2.length vc2]) (by kernel_rfl) (here (((((((((((((B2.ext0 x3).ext0 x4).ext0 x5).ext x6 (show ¬ (b2 = b4) by omega)).ext x7 (show ¬ (b2 = b5) by omega)).ext0 x8).ext0 x9).ext0 x10).ext x11 (show ¬ (b2 = b9) by omega)).ext x12 (show ¬ (b2 = b10) by omega)).ext0 x13).ext0 x14).part 0 3 _ rfl))) ?_
        have cj7_2 := join_c lf lf2 (.slice ka ks.length kc) (.slice va vs.length vc) (.slice ka2 ks2.length kc2) (.slice va2 vs2.length vc2) ks vs ks2 vs2 w14 (hk.ext0 (((((((((((((((Ext.refl No w).trans x1).trans x2).trans x3).trans x4).trans x5).trans_new x6 (fun i hi => by subst hi; omega)).trans_new x7 (fun i hi => by subst hi; omega)).trans x8).trans x9).trans x10).trans_new x11 (fun i hi => by subst hi; omega)).trans_new x12 (fun i hi => by subst hi; omega)).trans x13).trans x14)) (hv.ext0 (((((((((((((((Ext.refl No w).trans x1).trans x2).trans x3).trans x4).trans x5).trans_new x6 (fun i hi => by subst hi; omega)).trans_new x7 (fun i hi => by subst hi; omega)).trans x8).trans x9).trans x10).trans_new x11 (fun i hi => by subst hi; omega)).trans_new x12 (fun i hi => by subst hi; omega)).trans x13).trans x14)) (hk2.ext0 (((((((((((((((Ext.refl No w).trans x1).trans x2).trans x3).trans x4).trans x5).trans_new x6 (fun i hi => by subst hi; omega)).trans_new x7 (fun i hi => by subst hi; omega)).trans x8).trans x9).trans x10).trans_new x11 (fun i hi => by subst hi; omega)).trans_new x12 (fun i hi => by subst hi; omega)).trans x13).trans x14)) (hv2.ext0 (((((((((((((((Ext.refl No w).trans x1).trans x2).trans x3).trans x4).trans x5).trans_new x6 (fun i hi => by subst hi; omega)).trans_new x7 (fun i hi => by subst hi; omega)).trans x8).trans x9).trans x10).trans_new x11 (fun i hi => by subst hi; omega)).trans_new x12 (fun i hi => by subst hi; omega)).trans x13).trans x14))
        refine s_call rfl rfl rfl rfl rfl (fun w => Try.call25 _ w) (cj7_2) ?_
        rintro _ w15 ⟨_, rfl, ⟨ga15, ca15, gb15, cb15, rfl, Oa15, Ob15, Ap15⟩, x15⟩
        have m15 := x15.size
        clear cj7_2
        refine s_do rfl rfl rfl (d_move rfl rfl) ?_
        refine s_do rfl rfl rfl (d_extract rfl rfl rfl) ?_
        refine s_do rfl rfl rfl (d_extract rfl rfl rfl) ?_
        refine s_go rfl rfl rfl (g_alloc (P := Try.prog) rfl (zs := [.bool false, .slice none 0 0, .slice none 0 0]) (by kernel_rfl)) ?_
        rintro _ w16 ⟨b16, rfl, s16, t16, B16, x16⟩
        refine s_put rfl rfl (p_store rfl rfl rfl (vs := [.bool ((joinN lf ks vs lf2 ks2 vs2).1), .slice ga15 (((joinN lf ks vs lf2 ks2 vs2).2.1).length) ca15, .slice gb15 (((joinN lf ks vs lf2 ks2 vs2).2.2.1).length) cb15]) rfl (by simp [Value.oneCell']) (by kernel_rfl) (B16) (by simp) (out := [.bool ((joinN lf ks vs lf2 ks2 vs2).1), .slice ga15 (((joinN lf ks vs lf2 ks2 vs2).2.1).length) ca15, .slice gb15 (((joinN lf ks vs lf2 ks2 vs2).2.2.1).length) cb15]) rfl) ?_
        rintro w17 ⟨B17, x17, t17⟩
        refine s_do rfl rfl rfl (d_assign rfl rfl) ?_
        refine s_end ?_
        refine k_seq ?_
        refine s_region ?_
        refine s_do rfl rfl rfl (d_loadAgg rfl rfl (vs := [.bool lf, .slice ka ks.length kc, .slice va vs.length vc]) (by kernel_rfl) (here (((((((((((((((((B1.ext0 x2).ext0 x3).ext0 x4).ext0 x5).ext x6 (show ¬ (b1 = b4) by omega)).ext x7 (show ¬ (b1 = b5) by omega)).ext0 x8).ext0 x9).ext0 x10).ext x11 (show ¬ (b1 = b9) by omega)).ext x12 (show ¬ (b1 = b10) by omega)).ext0 x13).ext0 x14).ext0 x15).ext0 x16).ext x17 (show ¬ (b1 = b16) by omega)).part 0 3 _ rfl))) ?_
        refine s_do rfl rfl rfl (d_loadAgg rfl rfl (vs := [.bool lf2, .slice ka2 ks2.length kc2, .slice va2 vs2.length vc2]) (by kernel_rfl) (here ((((((((((((((((B2.ext0 x3).ext0 x4).ext0 x5).ext x6 (show ¬ (b2 = b4) by omega)).ext x7 (show ¬ (b2 = b5) by omega)).ext0 x8).ext0 x9).ext0 x10).ext x11 (show ¬ (b2 = b9) by omega)).ext x12 (show ¬ (b2 = b10) by omega)).ext0 x13).ext0 x14).ext0 x15).ext0 x16).ext x17 (show ¬ (b2 = b16) by omega)).part 0 3 _ rfl))) ?_
        have cj8_2 := rjoin_c lf lf2 (.slice ka ks.length kc) (.slice va vs.length vc) (.slice ka2 ks2.length kc2) (.slice va2 vs2.length vc2) ks vs ks2 vs2 w17 (hk.ext0 ((((((((((((((((((Ext.refl No w).trans x1).trans x2).trans x3).trans x4).trans x5).trans_new x6 (fun i hi => by subst hi; omega)).trans_new x7 (fun i hi => by subst hi; omega)).trans x8).trans x9).trans x10).trans_new x11 (fun i hi => by subst hi; omega)).trans_new x12 (fun i hi => by subst hi; omega)).trans x13).trans x14).trans x15).trans x16).trans_new x17 (fun i hi => by subst hi; omega))) (hv.ext0 ((((((((((((((((((Ext.refl No w).trans x1).trans x2).trans x3).trans x4).trans x5).trans_new x6 (fun i hi => by subst hi; omega)).trans_new x7 (fun i hi => by subst hi; omega)).trans x8).trans x9).trans x10).trans_new x11 (fun i hi => by subst hi; omega)).trans_new x12 (fun i hi => by subst hi; omega)).trans x13).trans x14).trans x15).trans x16).trans_new x17 (fun i hi => by subst hi; omega))) (hk2.ext0 ((((((((((((((((((Ext.refl No w).trans x1).trans x2).trans x3).trans x4).trans x5).trans_new x6 (fun i hi => by subst hi; omega)).trans_new x7 (fun i hi => by subst hi; omega)).trans x8).trans x9).trans x10).trans_new x11 (fun i hi => by subst hi; omega)).trans_new x12 (fun i hi => by subst hi; omega)).trans x13).trans x14).trans x15).trans x16).trans_new x17 (fun i hi => by subst hi; omega))) (hv2.ext0 ((((((((((((((((((Ext.refl No w).trans x1).trans x2).trans x3).trans x4).trans x5).trans_new x6 (fun i hi => by subst hi; omega)).trans_new x7 (fun i hi => by subst hi; omega)).trans x8).trans x9).trans x10).trans_new x11 (fun i hi => by subst hi; omega)).trans_new x12 (fun i hi => by subst hi; omega)).trans x13).trans x14).trans x15).trans x16).trans_new x17 (fun i hi => by subst hi; omega)))
        refine s_call rfl rfl rfl rfl rfl (fun w => Try.call26 _ w) (cj8_2) ?_
        rintro _ w18 ⟨_, rfl, ⟨ga18, ca18, gb18, cb18, rfl, Oa18, Ob18, Ap18⟩, x18⟩
        have m18 := x18.size
        clear cj8_2
        refine s_do rfl rfl rfl (d_move rfl rfl) ?_
        refine s_do rfl rfl rfl (d_extract rfl rfl rfl) ?_
        refine s_do rfl rfl rfl (d_extract rfl rfl rfl) ?_
        refine s_go rfl rfl rfl (g_alloc (P := Try.prog) rfl (zs := [.bool false, .slice none 0 0, .slice none 0 0]) (by kernel_rfl)) ?_
        rintro _ w19 ⟨b19, rfl, s19, t19, B19, x19⟩
        refine s_put rfl rfl (p_store rfl rfl rfl (vs := [.bool ((joinN lf ks vs lf2 ks2 vs2).1), .slice ga18 (((joinN lf ks vs lf2 ks2 vs2).2.1).length) ca18, .slice gb18 (((joinN lf ks vs lf2 ks2 vs2).2.2.1).length) cb18]) rfl (by simp [Value.oneCell']) (by kernel_rfl) (B19) (by simp) (out := [.bool ((joinN lf ks vs lf2 ks2 vs2).1), .slice ga18 (((joinN lf ks vs lf2 ks2 vs2).2.1).length) ca18, .slice gb18 (((joinN lf ks vs lf2 ks2 vs2).2.2.1).length) cb18]) rfl) ?_
        rintro w20 ⟨B20, x20, t20⟩
        refine s_do rfl rfl rfl (d_assign rfl rfl) ?_
        refine s_end ?_
        refine k_seq ?_
        refine s_region ?_
        refine s_do rfl rfl rfl (d_loadAgg rfl rfl (vs := [.bool ((joinN lf ks vs lf2 ks2 vs2).1), .slice ga15 (((joinN lf ks vs lf2 ks2 vs2).2.1).length) ca15, .slice gb15 (((joinN lf ks vs lf2 ks2 vs2).2.2.1).length) cb15]) (by kernel_rfl) (here ((((B17.ext0 x18).ext0 x19).ext x20 (show ¬ (b16 = b19) by omega)).part 0 3 _ rfl))) ?_
        refine s_do rfl rfl rfl (d_loadAgg rfl rfl (vs := [.bool ((joinN lf ks vs lf2 ks2 vs2).1), .slice ga18 (((joinN lf ks vs lf2 ks2 vs2).2.1).length) ca18, .slice gb18 (((joinN lf ks vs lf2 ks2 vs2).2.2.1).length) cb18]) (by kernel_rfl) (here (B20.part 0 3 _ rfl))) ?_
        refine s_call rfl rfl rfl rfl rfl (fun w => Try.call20 _ w) (same_c ((joinN lf ks vs lf2 ks2 vs2).1) ((joinN lf ks vs lf2 ks2 vs2).1) _ _ _ _ ((joinN lf ks vs lf2 ks2 vs2).2.1) ((joinN lf ks vs lf2 ks2 vs2).2.2.1) ((joinN lf ks vs lf2 ks2 vs2).2.1) ((joinN lf ks vs lf2 ks2 vs2).2.2.1) _ (((((Oa15.ext0 x16).extb x17 (own_ne Oa15 (by omega))).ext0 x18).ext0 x19).extb x20 (own_ne Oa15 (by omega))).rd (((((Ob15.ext0 x16).extb x17 (own_ne Ob15 (by omega))).ext0 x18).ext0 x19).extb x20 (own_ne Ob15 (by omega))).rd ((Oa18.ext0 x19).extb x20 (own_ne Oa18 (by omega))).rd ((Ob18.ext0 x19).extb x20 (own_ne Ob18 (by omega))).rd) ?_
        rintro _ w21 ⟨rfl, x21⟩
        have m21 := x21.size
        refine s_do rfl rfl rfl (d_assign rfl rfl) ?_
        refine s_end ?_
        refine k_seq ?_
        refine k_seq ?_
        refine s_region ?_
        refine s_do rfl rfl rfl (d_move rfl rfl) ?_
        refine s_do rfl rfl rfl (d_not_dec rfl rfl) ?_
        refine s_do rfl rfl rfl (d_move rfl rfl) ?_
        refine s_part 64 rfl (fun h4 => ?_) (fun h4 => ?_)
        · exact absurd ⟨rfl, rfl, rfl⟩ h4
        · -- no: ¬ (((joinN lf ks vs lf2 ks2 vs2).1) = ((joinN lf ks vs lf2 ks2 vs2).1) ∧ ((joinN lf ks vs lf2 ks2 vs2).2.1) = ((joinN lf ks vs lf2 ks2 vs2).2.1) ∧ ((joinN lf ks vs lf2 ks2 vs2).2.2.1) = ((joinN lf ks vs lf2 ks2 vs2).2.2.1))
          refine s_do rfl rfl rfl (d_move rfl rfl) ?_
          refine s_do rfl rfl rfl (d_move rfl rfl) ?_
          refine s_do rfl rfl rfl (d_neq rfl rfl rfl) ?_
          refine s_do rfl rfl rfl (d_pick_f rfl rfl rfl) ?_
          refine s_end ?_
          refine k_dec rfl (fun h5 => ?_) (fun h5 => ?_)
          · exact absurd rfl h5
          · -- no: ((joinN lf ks vs lf2 ks2 vs2).2.2.2 : Int) ≠ ((joinN lf ks vs lf2 ks2 vs2).2.2.2)
            refine k_skip ?_
            refine k_seq ?_
            refine s_region ?_
            refine s_do rfl rfl rfl (d_loadAgg rfl rfl (vs := [.bool lf, .slice ka ks.length kc, .slice va vs.length vc]) (by kernel_rfl) (here (((((((((((((((((((((B1.ext0 x2).ext0 x3).ext0 x4).ext0 x5).ext x6 (show ¬ (b1 = b4) by omega)).ext x7 (show ¬ (b1 = b5) by omega)).ext0 x8).ext0 x9).ext0 x10).ext x11 (show ¬ (b1 = b9) by omega)).ext x12 (show ¬ (b1 = b10) by omega)).ext0 x13).ext0 x14).ext0 x15).ext0 x16).ext x17 (show ¬ (b1 = b16) by omega)).ext0 x18).ext0 x19).ext x20 (show ¬ (b1 = b19) by omega)).ext0 x21).part 0 3 _ rfl))) ?_
            refine s_do rfl rfl rfl (d_loadAgg rfl rfl (vs := [.bool lf2, .slice ka2 ks2.length kc2, .slice va2 vs2.length vc2]) (by kernel_rfl) (here ((((((((((((((((((((B2.ext0 x3).ext0 x4).ext0 x5).ext x6 (show ¬ (b2 = b4) by omega)).ext x7 (show ¬ (b2 = b5) by omega)).ext0 x8).ext0 x9).ext0 x10).ext x11 (show ¬ (b2 = b9) by omega)).ext x12 (show ¬ (b2 = b10) by omega)).ext0 x13).ext0 x14).ext0 x15).ext0 x16).ext x17 (show ¬ (b2 = b16) by omega)).ext0 x18).ext0 x19).ext x20 (show ¬ (b2 = b19) by omega)).ext0 x21).part 0 3 _ rfl))) ?_
            refine s_call rfl rfl rfl rfl rfl (fun w => Try.call27 _ w) (share_c lf lf2 (.slice ka ks.length kc) (.slice va vs.length vc) (.slice ka2 ks2.length kc2) (.slice va2 vs2.length vc2) ks vs ks2 vs2 w21 (hk.ext0 ((((((((((((((((((((((Ext.refl No w).trans x1).trans x2).trans x3).trans x4).trans x5).trans_new x6 (fun i hi => by subst hi; omega)).trans_new x7 (fun i hi => by subst hi; omega)).trans x8).trans x9).trans x10).trans_new x11 (fun i hi => by subst hi; omega)).trans_new x12 (fun i hi => by subst hi; omega)).trans x13).trans x14).trans x15).trans x16).trans_new x17 (fun i hi => by subst hi; omega)).trans x18).trans x19).trans_new x20 (fun i hi => by subst hi; omega)).trans x21)) (hv.ext0 ((((((((((((((((((((((Ext.refl No w).trans x1).trans x2).trans x3).trans x4).trans x5).trans_new x6 (fun i hi => by subst hi; omega)).trans_new x7 (fun i hi => by subst hi; omega)).trans x8).trans x9).trans x10).trans_new x11 (fun i hi => by subst hi; omega)).trans_new x12 (fun i hi => by subst hi; omega)).trans x13).trans x14).trans x15).trans x16).trans_new x17 (fun i hi => by subst hi; omega)).trans x18).trans x19).trans_new x20 (fun i hi => by subst hi; omega)).trans x21)) (hk2.ext0 ((((((((((((((((((((((Ext.refl No w).trans x1).trans x2).trans x3).trans x4).trans x5).trans_new x6 (fun i hi => by subst hi; omega)).trans_new x7 (fun i hi => by subst hi; omega)).trans x8).trans x9).trans x10).trans_new x11 (fun i hi => by subst hi; omega)).trans_new x12 (fun i hi => by subst hi; omega)).trans x13).trans x14).trans x15).trans x16).trans_new x17 (fun i hi => by subst hi; omega)).trans x18).trans x19).trans_new x20 (fun i hi => by subst hi; omega)).trans x21)) (hv2.ext0 ((((((((((((((((((((((Ext.refl No w).trans x1).trans x2).trans x3).trans x4).trans x5).trans_new x6 (fun i hi => by subst hi; omega)).trans_new x7 (fun i hi => by subst hi; omega)).trans x8).trans x9).trans x10).trans_new x11 (fun i hi => by subst hi; omega)).trans_new x12 (fun i hi => by subst hi; omega)).trans x13).trans x14).trans x15).trans x16).trans_new x17 (fun i hi => by subst hi; omega)).trans x18).trans x19).trans_new x20 (fun i hi => by subst hi; omega)).trans x21))) ?_
            rintro _ w22 ⟨_, _, rfl, ⟨ga22, ca22, gb22, cb22, rfl, Oa22, Ob22, Ap22⟩, ⟨gc22, cc22, gd22, cd22, rfl, Oc22, Od22, Aq22⟩, Ax22, x22⟩
            have m22 := x22.size
            obtain ⟨Aac22, Aad22, Abc22, Abd22⟩ := Ax22 _ _ _ _ _ _ rfl rfl
            refine s_do rfl rfl rfl (d_move rfl rfl) ?_
            refine s_do rfl rfl rfl (d_extract rfl rfl rfl) ?_
            refine s_do rfl rfl rfl (d_extract rfl rfl rfl) ?_
            refine s_do rfl rfl rfl (d_extract rfl rfl rfl) ?_
            refine s_put rfl rfl (p_store rfl rfl rfl (vs := [.bool ((shareN lf ks vs lf2 ks2 vs2).1.1), .slice ga22 (((shareN lf ks vs lf2 ks2 vs2).1.2.1).length) ca22, .slice gb22 (((shareN lf ks vs lf2 ks2 vs2).1.2.2).length) cb22]) rfl (by simp [Value.oneCell']) (by kernel_rfl) (((((((((((((((((B6.ext x7 (show ¬ (b4 = b5) by omega)).ext0 x8).ext0 x9).ext0 x10).ext x11 (show ¬ (b4 = b9) by omega)).ext x12 (show ¬ (b4 = b10) by omega)).ext0 x13).ext0 x14).ext0 x15).ext0 x16).ext x17 (show ¬ (b4 = b16) by omega)).ext0 x18).ext0 x19).ext x20 (show ¬ (b4 = b19) by omega)).ext0 x21).ext0 x22)) (by simp) (out := [.bool ((shareN lf ks vs lf2 ks2 vs2).1.1), .slice ga22 (((shareN lf ks vs lf2 ks2 vs2).1.2.1).length) ca22, .slice gb22 (((shareN lf ks vs lf2 ks2 vs2).1.2.2).length) cb22]) rfl) ?_
            rintro w23 ⟨B23, x23, t23⟩
            refine s_put rfl rfl (p_store rfl rfl rfl (vs := [.bool ((shareN lf ks vs lf2 ks2 vs2).2.1.1), .slice gc22 (((shareN lf ks vs lf2 ks2 vs2).2.1.2.1).length) cc22, .slice gd22 (((shareN lf ks vs lf2 ks2 vs2).2.1.2.2).length) cd22]) rfl (by simp [Value.oneCell']) (by kernel_rfl) (((((((((((((((((B7.ext0 x8).ext0 x9).ext0 x10).ext x11 (show ¬ (b5 = b9) by omega)).ext x12 (show ¬ (b5 = b10) by omega)).ext0 x13).ext0 x14).ext0 x15).ext0 x16).ext x17 (show ¬ (b5 = b16) by omega)).ext0 x18).ext0 x19).ext x20 (show ¬ (b5 = b19) by omega)).ext0 x21).ext0 x22).ext x23 (show ¬ (b5 = b4) by omega))) (by simp) (out := [.bool ((shareN lf ks vs lf2 ks2 vs2).2.1.1), .slice gc22 (((shareN lf ks vs lf2 ks2 vs2).2.1.2.1).length) cc22, .slice gd22 (((shareN lf ks vs lf2 ks2 vs2).2.1.2.2).length) cd22]) rfl) ?_
            rintro w24 ⟨B24, x24, t24⟩
            refine s_do rfl rfl rfl (d_assign rfl rfl) ?_
            refine s_end ?_
            refine k_seq ?_
            refine s_region ?_
            refine s_do rfl rfl rfl (d_loadAgg rfl rfl (vs := [.bool lf, .slice ka ks.length kc, .slice va vs.length vc]) (by kernel_rfl) (here ((((((((((((((((((((((((B1.ext0 x2).ext0 x3).ext0 x4).ext0 x5).ext x6 (show ¬ (b1 = b4) by omega)).ext x7 (show ¬ (b1 = b5) by omega)).ext0 x8).ext0 x9).ext0 x10).ext x11 (show ¬ (b1 = b9) by omega)).ext x12 (show ¬ (b1 = b10) by omega)).ext0 x13).ext0 x14).ext0 x15).ext0 x16).ext x17 (show ¬ (b1 = b16) by omega)).ext0 x18).ext0 x19).ext x20 (show ¬ (b1 = b19) by omega)).ext0 x21).ext0 x22).ext x23 (show ¬ (b1 = b4) by omega)).ext x24 (show ¬ (b1 = b5) by omega)).part 0 3 _ rfl))) ?_
            refine s_do rfl rfl rfl (d_loadAgg rfl rfl (vs := [.bool lf2, .slice ka2 ks2.length kc2, .slice va2 vs2.length vc2]) (by kernel_rfl) (here (((((((((((((((((((((((B2.ext0 x3).ext0 x4).ext0 x5).ext x6 (show ¬ (b2 = b4) by omega)).ext x7 (show ¬ (b2 = b5) by omega)).ext0 x8).ext0 x9).ext0 x10).ext x11 (show ¬ (b2 = b9) by omega)).ext x12 (show ¬ (b2 = b10) by omega)).ext0 x13).ext0 x14).ext0 x15).ext0 x16).ext x17 (show ¬ (b2 = b16) by omega)).ext0 x18).ext0 x19).ext x20 (show ¬ (b2 = b19) by omega)).ext0 x21).ext0 x22).ext x23 (show ¬ (b2 = b4) by omega)).ext x24 (show ¬ (b2 = b5) by omega)).part 0 3 _ rfl))) ?_
            refine s_call rfl rfl rfl rfl rfl (fun w => Try.call28 _ w) (rshare_c lf lf2 (.slice ka ks.length kc) (.slice va vs.length vc) (.slice ka2 ks2.length kc2) (.slice va2 vs2.length vc2) ks vs ks2 vs2 w24 (hk.ext0 (((((((((((((((((((((((((Ext.refl No w).trans x1).trans x2).trans x3).trans x4).trans x5).trans_new x6 (fun i hi => by subst hi; omega)).trans_new x7 (fun i hi => by subst hi; omega)).trans x8).trans x9).trans x10).trans_new x11 (fun i hi => by subst hi; omega)).trans_new x12 (fun i hi => by subst hi; omega)).trans x13).trans x14).trans x15).trans x16).trans_new x17 (fun i hi => by subst hi; omega)).trans x18).trans x19).trans_new x20 (fun i hi => by subst hi; omega)).trans x21).trans x22).trans_new x23 (fun i hi => by subst hi; omega)).trans_new x24 (fun i hi => by subst hi; omega))) (hv.ext0 (((((((((((((((((((((((((Ext.refl No w).trans x1).trans x2).trans x3).trans x4).trans x5).trans_new x6 (fun i hi => by subst hi; omega)).trans_new x7 (fun i hi => by subst hi; omega)).trans x8).trans x9).trans x10).trans_new x11 (fun i hi => by subst hi; omega)).trans_new x12 (fun i hi => by subst hi; omega)).trans x13).trans x14).trans x15).trans x16).trans_new x17 (fun i hi => by subst hi; omega)).trans x18).trans x19).trans_new x20 (fun i hi => by subst hi; omega)).trans x21).trans x22).trans_new x23 (fun i hi => by subst hi; omega)).trans_new x24 (fun i hi => by subst hi; omega))) (hk2.ext0 (((((((((((((((((((((((((Ext.refl No w).trans x1).trans x2).trans x3).trans x4).trans x5).trans_new x6 (fun i hi => by subst hi; omega)).trans_new x7 (fun i hi => by subst hi; omega)).trans x8).trans x9).trans x10).trans_new x11 (fun i hi => by subst hi; omega)).trans_new x12 (fun i hi => by subst hi; omega)).trans x13).trans x14).trans x15).trans x16).trans_new x17 (fun i hi => by subst hi; omega)).trans x18).trans x19).trans_new x20 (fun i hi => by subst hi; omega)).trans x21).trans x22).trans_new x23 (fun i hi => by subst hi; omega)).trans_new x24 (fun i hi => by subst hi; omega))) (hv2.ext0 (((((((((((((((((((((((((Ext.refl No w).trans x1).trans x2).trans x3).trans x4).trans x5).trans_new x6 (fun i hi => by subst hi; omega)).trans_new x7 (fun i hi => by subst hi; omega)).trans x8).trans x9).trans x10).trans_new x11 (fun i hi => by subst hi; omega)).trans_new x12 (fun i hi => by subst hi; omega)).trans x13).trans x14).trans x15).trans x16).trans_new x17 (fun i hi => by subst hi; omega)).trans x18).trans x19).trans_new x20 (fun i hi => by subst hi; omega)).trans x21).trans x22).trans_new x23 (fun i hi => by subst hi; omega)).trans_new x24 (fun i hi => by subst hi; omega)))) ?_
            rintro _ w25 ⟨_, _, rfl, ⟨ga25, ca25, gb25, cb25, rfl, Oa25, Ob25, Ap25⟩, ⟨gc25, cc25, gd25, cd25, rfl, Oc25, Od25, Aq25⟩, Ax25, x25⟩
            have m25 := x25.size
            obtain ⟨Aac25, Aad25, Abc25, Abd25⟩ := Ax25 _ _ _ _ _ _ rfl rfl
            refine s_do rfl rfl rfl (d_move rfl rfl) ?_
            refine s_do rfl rfl rfl (d_extract rfl rfl rfl) ?_
            refine s_do rfl rfl rfl (d_extract rfl rfl rfl) ?_
            refine s_do rfl rfl rfl (d_extract rfl rfl rfl) ?_
            refine s_put rfl rfl (p_store rfl rfl rfl (vs := [.bool ((shareN lf ks vs lf2 ks2 vs2).1.1), .slice ga25 (((shareN lf ks vs lf2 ks2 vs2).1.2.1).length) ca25, .slice gb25 (((shareN lf ks vs lf2 ks2 vs2).1.2.2).length) cb25]) rfl (by simp [Value.oneCell']) (by kernel_rfl) (((((((((((((((B11.ext x12 (show ¬ (b9 = b10) by omega)).ext0 x13).ext0 x14).ext0 x15).ext0 x16).ext x17 (show ¬ (b9 = b16) by omega)).ext0 x18).ext0 x19).ext x20 (show ¬ (b9 = b19) by omega)).ext0 x21).ext0 x22).ext x23 (show ¬ (b9 = b4) by omega)).ext x24 (show ¬ (b9 = b5) by omega)).ext0 x25)) (by simp) (out := [.bool ((shareN lf ks vs lf2 ks2 vs2).1.1), .slice ga25 (((shareN lf ks vs lf2 ks2 vs2).1.2.1).length) ca25, .slice gb25 (((shareN lf ks vs lf2 ks2 vs2).1.2.2).length) cb25]) rfl) ?_
            rintro w26 ⟨B26, x26, t26⟩
            refine s_put rfl rfl (p_store rfl rfl rfl (vs := [.bool ((shareN lf ks vs lf2 ks2 vs2).2.1.1), .slice gc25 (((shareN lf ks vs lf2 ks2 vs2).2.1.2.1).length) cc25, .slice gd25 (((shareN lf ks vs lf2 ks2 vs2).2.1.2.2).length) cd25]) rfl (by simp [Value.oneCell']) (by kernel_rfl) (((((((((((((((B12.ext0 x13).ext0 x14).ext0 x15).ext0 x16).ext x17 (show ¬ (b10 = b16) by omega)).ext0 x18).ext0 x19).ext x20 (show ¬ (b10 = b19) by omega)).ext0 x21).ext0 x22).ext x23 (show ¬ (b10 = b4) by omega)).ext x24 (show ¬ (b10 = b5) by omega)).ext0 x25).ext x26 (show ¬ (b10 = b9) by omega))) (by simp) (out := [.bool ((shareN lf ks vs lf2 ks2 vs2).2.1.1), .slice gc25 (((shareN lf ks vs lf2 ks2 vs2).2.1.2.1).length) cc25, .slice gd25 (((shareN lf ks vs lf2 ks2 vs2).2.1.2.2).length) cd25]) rfl) ?_
            rintro w27 ⟨B27, x27, t27⟩
            refine s_do rfl rfl rfl (d_assign rfl rfl) ?_
            refine s_end ?_
            refine k_seq ?_
            refine s_region ?_
            refine s_do rfl rfl rfl (d_loadAgg rfl rfl (vs := [.bool ((shareN lf ks vs lf2 ks2 vs2).1.1), .slice ga22 (((shareN lf ks vs lf2 ks2 vs2).1.2.1).length) ca22, .slice gb22 (((shareN lf ks vs lf2 ks2 vs2).1.2.2).length) cb22]) (by kernel_rfl) (here (((((B23.ext x24 (show ¬ (b4 = b5) by omega)).ext0 x25).ext x26 (show ¬ (b4 = b9) by omega)).ext x27 (show ¬ (b4 = b10) by omega)).part 0 3 _ rfl))) ?_
            refine s_do rfl rfl rfl (d_loadAgg rfl rfl (vs := [.bool ((shareN lf ks vs lf2 ks2 vs2).1.1), .slice ga25 (((shareN lf ks vs lf2 ks2 vs2).1.2.1).length) ca25, .slice gb25 (((shareN lf ks vs lf2 ks2 vs2).1.2.2).length) cb25]) (by kernel_rfl) (here ((B26.ext x27 (show ¬ (b9 = b10) by omega)).part 0 3 _ rfl))) ?_
            refine s_call rfl rfl rfl rfl rfl (fun w => Try.call20 _ w) (same_c ((shareN lf ks vs lf2 ks2 vs2).1.1) ((shareN lf ks vs lf2 ks2 vs2).1.1) _ _ _ _ ((shareN lf ks vs lf2 ks2 vs2).1.2.1) ((shareN lf ks vs lf2 ks2 vs2).1.2.2) ((shareN lf ks vs lf2 ks2 vs2).1.2.1) ((shareN lf ks vs lf2 ks2 vs2).1.2.2) _ (((((Oa22.extb x23 (own_ne Oa22 (by omega))).extb x24 (own_ne Oa22 (by omega))).ext0 x25).extb x26 (own_ne Oa22 (by omega))).extb x27 (own_ne Oa22 (by omega))).rd (((((Ob22.extb x23 (own_ne Ob22 (by omega))).extb x24 (own_ne Ob22 (by omega))).ext0 x25).extb x26 (own_ne Ob22 (by omega))).extb x27 (own_ne Ob22 (by omega))).rd ((Oa25.extb x26 (own_ne Oa25 (by omega))).extb x27 (own_ne Oa25 (by omega))).rd ((Ob25.extb x26 (own_ne Ob25 (by omega))).extb x27 (own_ne Ob25 (by omega))).rd) ?_
            rintro _ w28 ⟨rfl, x28⟩
            have m28 := x28.size
            refine s_do rfl rfl rfl (d_assign rfl rfl) ?_
            refine s_end ?_
            refine k_seq ?_
            refine s_region ?_
            refine s_do rfl rfl rfl (d_loadAgg rfl rfl (vs := [.bool ((shareN lf ks vs lf2 ks2 vs2).2.1.1), .slice gc22 (((shareN lf ks vs lf2 ks2 vs2).2.1.2.1).length) cc22, .slice gd22 (((shareN lf ks vs lf2 ks2 vs2).2.1.2.2).length) cd22]) (by kernel_rfl) (here (((((B24.ext0 x25).ext x26 (show ¬ (b5 = b9) by omega)).ext x27 (show ¬ (b5 = b10) by omega)).ext0 x28).part 0 3 _ rfl))) ?_
            refine s_do rfl rfl rfl (d_loadAgg rfl rfl (vs := [.bool ((shareN lf ks vs lf2 ks2 vs2).2.1.1), .slice gc25 (((shareN lf ks vs lf2 ks2 vs2).2.1.2.1).length) cc25, .slice gd25 (((shareN lf ks vs lf2 ks2 vs2).2.1.2.2).length) cd25]) (by kernel_rfl) (here ((B27.ext0 x28).part 0 3 _ rfl))) ?_
            refine s_call rfl rfl rfl rfl rfl (fun w => Try.call20 _ w) (same_c ((shareN lf ks vs lf2 ks2 vs2).2.1.1) ((shareN lf ks vs lf2 ks2 vs2).2.1.1) _ _ _ _ ((shareN lf ks vs lf2 ks2 vs2).2.1.2.1) ((shareN lf ks vs lf2 ks2 vs2).2.1.2.2) ((shareN lf ks vs lf2 ks2 vs2).2.1.2.1) ((shareN lf ks vs lf2 ks2 vs2).2.1.2.2) _ ((((((Oc22.extb x23 (own_ne Oc22 (by omega))).extb x24 (own_ne Oc22 (by omega))).ext0 x25).extb x26 (own_ne Oc22 (by omega))).extb x27 (own_ne Oc22 (by omega))).ext0 x28).rd ((((((Od22.extb x23 (own_ne Od22 (by omega))).extb x24 (own_ne Od22 (by omega))).ext0 x25).extb x26 (own_ne Od22 (by omega))).extb x27 (own_ne Od22 (by omega))).ext0 x28).rd (((Oc25.extb x26 (own_ne Oc25 (by omega))).extb x27 (own_ne Oc25 (by omega))).ext0 x28).rd (((Od25.extb x26 (own_ne Od25 (by omega))).extb x27 (own_ne Od25 (by omega))).ext0 x28).rd) ?_
            rintro _ w29 ⟨rfl, x29⟩
            have m29 := x29.size
            refine s_do rfl rfl rfl (d_assign rfl rfl) ?_
            refine s_end ?_
            refine k_seq ?_
            refine s_region ?_
            refine s_do rfl rfl rfl (d_move rfl rfl) ?_
            refine s_do rfl rfl rfl (d_move rfl rfl) ?_
            refine s_part 90 rfl (fun h6 => ?_) (fun h6 => ?_)
            · -- yes: ((shareN lf ks vs lf2 ks2 vs2).1.1) = ((shareN lf ks vs lf2 ks2 vs2).1.1) ∧ ((shareN lf ks vs lf2 ks2 vs2).1.2.1) = ((shareN lf ks vs lf2 ks2 vs2).1.2.1) ∧ ((shareN lf ks vs lf2 ks2 vs2).1.2.2) = ((shareN lf ks vs lf2 ks2 vs2).1.2.2)
              refine s_do rfl rfl rfl (d_move rfl rfl) ?_
              refine s_do rfl rfl rfl (d_pick_t rfl rfl rfl) ?_
              refine s_do rfl rfl rfl (d_move rfl rfl) ?_
              refine s_part 93 rfl (fun h7 => ?_) (fun h7 => ?_)
              · -- yes: ((shareN lf ks vs lf2 ks2 vs2).2.1.1) = ((shareN lf ks vs lf2 ks2 vs2).2.1.1) ∧ ((shareN lf ks vs lf2 ks2 vs2).2.1.2.1) = ((shareN lf ks vs lf2 ks2 vs2).2.1.2.1) ∧ ((shareN lf ks vs lf2 ks2 vs2).2.1.2.2) = ((shareN lf ks vs lf2 ks2 vs2).2.1.2.2)
                refine s_do rfl rfl rfl (d_move rfl rfl) ?_
                refine s_do rfl rfl rfl (d_move rfl rfl) ?_
                refine s_do rfl rfl rfl (d_eql rfl rfl rfl) ?_
                refine s_do rfl rfl rfl (d_pick_t rfl rfl rfl) ?_
                refine s_do rfl rfl rfl (d_move rfl rfl) ?_
                refine s_part 98 rfl (fun h8 => ?_) (fun h8 => ?_)
                · -- yes: ((shareN lf ks vs lf2 ks2 vs2).2.2 : Int) = ((shareN lf ks vs lf2 ks2 vs2).2.2)
                  refine s_call rfl rfl rfl rfl rfl (fun w => Try.call13 _ w) (lives_c _) ?_
                  rintro _ w30 ⟨rfl, x30⟩
                  have m30 := x30.size
                  refine s_do rfl rfl rfl (d_pick_t rfl rfl rfl) ?_
                  refine s_do rfl rfl rfl (d_assign rfl rfl) ?_
                  refine s_end ?_
                  refine k_ret ?_
                  refine doneL rfl [.bool true] ⟨rfl, trivial⟩ (v := .bool true) rfl ?_
                  have X := (((((((((((((((((((((((((((((((Ext.refl No w).trans x1).trans x2).trans x3).trans x4).trans x5).trans_new x6 (fun i hi => by subst hi; omega)).trans_new x7 (fun i hi => by subst hi; omega)).trans x8).trans x9).trans x10).trans_new x11 (fun i hi => by subst hi; omega)).trans_new x12 (fun i hi => by subst hi; omega)).trans x13).trans x14).trans x15).trans x16).trans_new x17 (fun i hi => by subst hi; omega)).trans x18).trans x19).trans_new x20 (fun i hi => by subst hi; omega)).trans x21).trans x22).trans_new x23 (fun i hi => by subst hi; omega)).trans_new x24 (fun i hi => by subst hi; omega)).trans x25).trans_new x26 (fun i hi => by subst hi; omega)).trans_new x27 (fun i hi => by subst hi; omega)).trans x28).trans x29).trans x30)
                  exact ⟨by simp, X⟩
                · exact absurd rfl h8
              · exact absurd ⟨rfl, rfl, rfl⟩ h7
            · exact absurd ⟨rfl, rfl, rfl⟩ h6

theorem back_c (lf : Bool) (kv vv : Value) (ks vs : List Int) (w : World) (hk : RdI kv ks w) (hv : RdI vv vs w) :
    Calls Try.prog 10 #[.agg #[.bool lf, kv, vv]] w (Ret fun v w' => v = .bool true ∧ Ext No w w') := by
  have hk0 := hk; have hv0 := hv
  obtain ⟨ka, kc, rfl, hkc, hkm, hc⟩ := hk0.opened
  obtain ⟨va, vc, rfl, hvc, hvm, hd⟩ := hv0.opened
  obtain ⟨⟨L1, K1, V1⟩, ⟨L2, K2, V2⟩, E, hs⟩ : ∃ (a b : Trip) (c : Int), splitN lf ks vs = (a, b, c) := ⟨_, _, _, rfl⟩
  have e1 := split_err lf ks vs
  have e2 := split_ok lf ks vs
  rw [hs] at e1 e2
  dsimp only at e1 e2
  refine enter Try.func10 rfl 81 Try.ntmps10 rfl ?_
  refine k_seq ?_
  refine s_region ?_
  refine s_go rfl rfl rfl (g_box rfl rfl rfl) ?_
  rintro _ w1 ⟨b1, rfl, s1, t1, B1, x1⟩
  refine s_do rfl rfl rfl (d_assign rfl rfl) ?_
  refine s_end ?_
  refine k_seq ?_
  refine s_region ?_
  refine s_do rfl rfl rfl (d_loadAgg rfl rfl (vs := [.bool lf, .slice ka ks.length kc, .slice va vs.length vc]) (by kernel_rfl) (here (B1.part 0 3 _ rfl))) ?_
  have cs1_1 := split_c lf (.slice ka ks.length kc) (.slice va vs.length vc) ks vs w1 (hk.ext0 x1) (hv.ext0 x1)
  rw [hs] at cs1_1; dsimp only at cs1_1
  refine s_call rfl rfl rfl rfl rfl (fun w => Try.call23 _ w) (cs1_1) ?_
  rintro _ w2 ⟨_, _, rfl, ⟨ga2, ca2, gb2, cb2, rfl, Oa2, Ob2, Ap2⟩, ⟨gc2, cc2, gd2, cd2, rfl, Oc2, Od2, Aq2⟩, Ax2, x2⟩
  have m2 := x2.size
  obtain ⟨Aac2, Aad2, Abc2, Abd2⟩ := Ax2 _ _ _ _ _ _ rfl rfl
  clear cs1_1
  refine s_do rfl rfl rfl (d_move rfl rfl) ?_
  refine s_do rfl rfl rfl (d_extract rfl rfl rfl) ?_
  refine s_do rfl rfl rfl (d_extract rfl rfl rfl) ?_
  refine s_do rfl rfl rfl (d_extract rfl rfl rfl) ?_
  refine s_go rfl rfl rfl (g_alloc (P := Try.prog) rfl (zs := [.bool false, .slice none 0 0, .slice none 0 0]) (by kernel_rfl)) ?_
  rintro _ w3 ⟨b3, rfl, s3, t3, B3, x3⟩
  refine s_go rfl rfl rfl (g_alloc (P := Try.prog) rfl (zs := [.bool false, .slice none 0 0, .slice none 0 0]) (by kernel_rfl)) ?_
  rintro _ w4 ⟨b4, rfl, s4, t4, B4, x4⟩
  refine s_put rfl rfl (p_store rfl rfl rfl (vs := [.bool L1, .slice ga2 ((K1).length) ca2, .slice gb2 ((V1).length) cb2]) rfl (by simp [Value.oneCell']) (by kernel_rfl) ((B3.ext0 x4)) (by simp) (out := [.bool L1, .slice ga2 ((K1).length) ca2, .slice gb2 ((V1).length) cb2]) rfl) ?_
  rintro w5 ⟨B5, x5, t5⟩
  refine s_put rfl rfl (p_store rfl rfl rfl (vs := [.bool L2, .slice gc2 ((K2).length) cc2, .slice gd2 ((V2).length) cd2]) rfl (by simp [Value.oneCell']) (by kernel_rfl) ((B4.ext x5 (show ¬ (b4 = b3) by omega))) (by simp) (out := [.bool L2, .slice gc2 ((K2).length) cc2, .slice gd2 ((V2).length) cd2]) rfl) ?_
  rintro w6 ⟨B6, x6, t6⟩
  refine s_do rfl rfl rfl (d_assign rfl rfl) ?_
  refine s_end ?_
  refine k_seq ?_
  refine k_seq ?_
  refine s_region ?_
  refine s_do rfl rfl rfl (d_move rfl rfl) ?_
  refine s_do rfl rfl rfl (d_neq rfl rfl rfl) ?_
  refine s_end ?_
  refine k_dec rfl (fun h1 => ?_) (fun h1 => ?_)
  · -- yes: (E : Int) ≠ 0
    obtain ⟨rfl, rfl⟩ := e1 h1
    refine k_seq ?_
    refine s_region ?_
    refine s_do rfl rfl rfl (d_field rfl (k := 1) (r := 1) (by kernel_rfl) rfl rfl) ?_
    refine s_do rfl rfl rfl (d_load rfl rfl (by kernel_rfl) (here ((B5.ext x6 (show ¬ (b3 = b4) by omega)).cel 1 rfl))) ?_
    refine s_do rfl rfl rfl (d_len rfl (z := 1) (by kernel_rfl) rfl) ?_
    refine s_do rfl rfl rfl (d_eql rfl rfl rfl) ?_
    refine s_do rfl rfl rfl (d_move rfl rfl) ?_
    refine s_part 24 rfl (fun h2 => ?_) (fun h2 => ?_)
    · -- yes: (([]).length : Int) = 0
      refine s_do rfl rfl rfl (d_field rfl (k := 1) (r := 1) (by kernel_rfl) rfl rfl) ?_
      refine s_do rfl rfl rfl (d_load rfl rfl (by kernel_rfl) (here (B6.cel 1 rfl))) ?_
      refine s_do rfl rfl rfl (d_len rfl (z := 1) (by kernel_rfl) rfl) ?_
      refine s_do rfl rfl rfl (d_eql rfl rfl rfl) ?_
      refine s_do rfl rfl rfl (d_pick_t rfl rfl rfl) ?_
      refine s_do rfl rfl rfl (d_move rfl rfl) ?_
      refine s_part 30 rfl (fun h3 => ?_) (fun h3 => ?_)
      · -- yes: (([]).length : Int) = 0
        refine s_call rfl rfl rfl rfl rfl (fun w => Try.call13 _ w) (lives_c _) ?_
        rintro _ w7 ⟨rfl, x7⟩
        have m7 := x7.size
        refine s_do rfl rfl rfl (d_pick_t rfl rfl rfl) ?_
        refine s_do rfl rfl rfl (d_assign rfl rfl) ?_
        refine s_end ?_
        refine k_ret ?_
        refine doneL rfl [.bool true] ⟨rfl, trivial⟩ (v := .bool true) rfl ?_
        have X := ((((((((Ext.refl No w).trans x1).trans x2).trans x3).trans x4).trans_new x5 (fun i hi => by subst hi; omega)).trans_new x6 (fun i hi => by subst hi; omega)).trans x7)
        exact ⟨by simp, X⟩
      · exact absurd rfl h3
    · exact absurd rfl h2
  · -- no: (E : Int) ≠ 0
    obtain ⟨hj, L3, K3, V3, L4, K4, V4, hsh, hd0, hd1, hd2⟩ := e2 (by omega)
    have hl3 : K3.length ≤ 8 := by omega
    have hl4 : K4.length ≤ 8 := by omega
    refine k_skip ?_
    refine k_seq ?_
    refine s_region ?_
    refine s_do rfl rfl rfl (d_loadAgg rfl rfl (vs := [.bool L1, .slice ga2 ((K1).length) ca2, .slice gb2 ((V1).length) cb2]) (by kernel_rfl) (here ((B5.ext x6 (show ¬ (b3 = b4) by omega)).part 0 3 _ rfl))) ?_
    refine s_do rfl rfl rfl (d_loadAgg rfl rfl (vs := [.bool L2, .slice gc2 ((K2).length) cc2, .slice gd2 ((V2).length) cd2]) (by kernel_rfl) (here (B6.part 0 3 _ rfl))) ?_
    have cj4_2 := join_c L1 L2 (.slice ga2 ((K1).length) ca2) (.slice gb2 ((V1).length) cb2) (.slice gc2 ((K2).length) cc2) (.slice gd2 ((V2).length) cd2) K1 V1 K2 V2 w6 ((((Oa2.ext0 x3).ext0 x4).extb x5 (own_ne Oa2 (by omega))).extb x6 (own_ne Oa2 (by omega))).rd ((((Ob2.ext0 x3).ext0 x4).extb x5 (own_ne Ob2 (by omega))).extb x6 (own_ne Ob2 (by omega))).rd ((((Oc2.ext0 x3).ext0 x4).extb x5 (own_ne Oc2 (by omega))).extb x6 (own_ne Oc2 (by omega))).rd ((((Od2.ext0 x3).ext0 x4).extb x5 (own_ne Od2 (by omega))).extb x6 (own_ne Od2 (by omega))).rd
    rw [hj] at cj4_2; dsimp only at cj4_2
    refine s_call rfl rfl rfl rfl rfl (fun w => Try.call25 _ w) (cj4_2) ?_
    rintro _ w8 ⟨_, rfl, ⟨ga8, ca8, gb8, cb8, rfl, Oa8, Ob8, Ap8⟩, x8⟩
    have m8 := x8.size
    clear cj4_2
    refine s_do rfl rfl rfl (d_move rfl rfl) ?_
    refine s_do rfl rfl rfl (d_extract rfl rfl rfl) ?_
    refine s_do rfl rfl rfl (d_extract rfl rfl rfl) ?_
    refine s_go rfl rfl rfl (g_alloc (P := Try.prog) rfl (zs := [.bool false, .slice none 0 0, .slice none 0 0]) (by kernel_rfl)) ?_
    rintro _ w9 ⟨b9, rfl, s9, t9, B9, x9⟩
    refine s_put rfl rfl (p_store rfl rfl rfl (vs := [.bool lf, .slice ga8 ((ks).length) ca8, .slice gb8 ((vs).length) cb8]) rfl (by simp [Value.oneCell']) (by kernel_rfl) (B9) (by simp) (out := [.bool lf, .slice ga8 ((ks).length) ca8, .slice gb8 ((vs).length) cb8]) rfl) ?_
    rintro w10 ⟨B10, x10, t10⟩
    refine s_do rfl rfl rfl (d_assign rfl rfl) ?_
    refine s_end ?_
    refine k_seq ?_
    refine s_region ?_
    refine s_do rfl rfl rfl (d_loadAgg rfl rfl (vs := [.bool lf, .slice ga8 ((ks).length) ca8, .slice gb8 ((vs).length) cb8]) (by kernel_rfl) (here (B10.part 0 3 _ rfl))) ?_
    refine s_do rfl rfl rfl (d_loadAgg rfl rfl (vs := [.bool lf, .slice ka ks.length kc, .slice va vs.length vc]) (by kernel_rfl) (here (((((((((B1.ext0 x2).ext0 x3).ext0 x4).ext x5 (show ¬ (b1 = b3) by omega)).ext x6 (show ¬ (b1 = b4) by omega)).ext0 x8).ext0 x9).ext x10 (show ¬ (b1 = b9) by omega)).part 0 3 _ rfl))) ?_
    refine s_call rfl rfl rfl rfl rfl (fun w => Try.call20 _ w) (same_c lf lf _ _ _ _ ks vs ks vs _ ((Oa8.ext0 x9).extb x10 (own_ne Oa8 (by omega))).rd ((Ob8.ext0 x9).extb x10 (own_ne Ob8 (by omega))).rd (hk.ext0 ((((((((((Ext.refl No w).trans x1).trans x2).trans x3).trans x4).trans_new x5 (fun i hi => by subst hi; omega)).trans_new x6 (fun i hi => by subst hi; omega)).trans x8).trans x9).trans_new x10 (fun i hi => by subst hi; omega))) (hv.ext0 ((((((((((Ext.refl No w).trans x1).trans x2).trans x3).trans x4).trans_new x5 (fun i hi => by subst hi; omega)).trans_new x6 (fun i hi => by subst hi; omega)).trans x8).trans x9).trans_new x10 (fun i hi => by subst hi; omega)))) ?_
    rintro _ w11 ⟨rfl, x11⟩
    have m11 := x11.size
    refine s_do rfl rfl rfl (d_assign rfl rfl) ?_
    refine s_end ?_
    refine k_seq ?_
    refine s_region ?_
    refine s_do rfl rfl rfl (d_loadAgg rfl rfl (vs := [.bool L1, .slice ga2 ((K1).length) ca2, .slice gb2 ((V1).length) cb2]) (by kernel_rfl) (here ((((((B5.ext x6 (show ¬ (b3 = b4) by omega)).ext0 x8).ext0 x9).ext x10 (show ¬ (b3 = b9) by omega)).ext0 x11).part 0 3 _ rfl))) ?_
    refine s_do rfl rfl rfl (d_loadAgg rfl rfl (vs := [.bool L2, .slice gc2 ((K2).length) cc2, .slice gd2 ((V2).length) cd2]) (by kernel_rfl) (here (((((B6.ext0 x8).ext0 x9).ext x10 (show ¬ (b4 = b9) by omega)).ext0 x11).part 0 3 _ rfl))) ?_
    have cs6_2 := share_c L1 L2 (.slice ga2 ((K1).length) ca2) (.slice gb2 ((V1).length) cb2) (.slice gc2 ((K2).length) cc2) (.slice gd2 ((V2).length) cd2) K1 V1 K2 V2 w11 ((((((((Oa2.ext0 x3).ext0 x4).extb x5 (own_ne Oa2 (by omega))).extb x6 (own_ne Oa2 (by omega))).ext0 x8).ext0 x9).extb x10 (own_ne Oa2 (by omega))).ext0 x11).rd ((((((((Ob2.ext0 x3).ext0 x4).extb x5 (own_ne Ob2 (by omega))).extb x6 (own_ne Ob2 (by omega))).ext0 x8).ext0 x9).extb x10 (own_ne Ob2 (by omega))).ext0 x11).rd ((((((((Oc2.ext0 x3).ext0 x4).extb x5 (own_ne Oc2 (by omega))).extb x6 (own_ne Oc2 (by omega))).ext0 x8).ext0 x9).extb x10 (own_ne Oc2 (by omega))).ext0 x11).rd ((((((((Od2.ext0 x3).ext0 x4).extb x5 (own_ne Od2 (by omega))).extb x6 (own_ne Od2 (by omega))).ext0 x8).ext0 x9).extb x10 (own_ne Od2 (by omega))).ext0 x11).rd
    rw [hsh] at cs6_2; dsimp only at cs6_2
    refine s_call rfl rfl rfl rfl rfl (fun w => Try.call27 _ w) (cs6_2) ?_
    rintro _ w12 ⟨_, _, rfl, ⟨ga12, ca12, gb12, cb12, rfl, Oa12, Ob12, Ap12⟩, ⟨gc12, cc12, gd12, cd12, rfl, Oc12, Od12, Aq12⟩, Ax12, x12⟩
    have m12 := x12.size
    obtain ⟨Aac12, Aad12, Abc12, Abd12⟩ := Ax12 _ _ _ _ _ _ rfl rfl
    clear cs6_2
    refine s_do rfl rfl rfl (d_move rfl rfl) ?_
    refine s_do rfl rfl rfl (d_extract rfl rfl rfl) ?_
    refine s_do rfl rfl rfl (d_extract rfl rfl rfl) ?_
    refine s_do rfl rfl rfl (d_extract rfl rfl rfl) ?_
    refine s_go rfl rfl rfl (g_alloc (P := Try.prog) rfl (zs := [.bool false, .slice none 0 0, .slice none 0 0]) (by kernel_rfl)) ?_
    rintro _ w13 ⟨b13, rfl, s13, t13, B13, x13⟩
    refine s_go rfl rfl rfl (g_alloc (P := Try.prog) rfl (zs := [.bool false, .slice none 0 0, .slice none 0 0]) (by kernel_rfl)) ?_
    rintro _ w14 ⟨b14, rfl, s14, t14, B14, x14⟩
    refine s_put rfl rfl (p_store rfl rfl rfl (vs := [.bool L3, .slice ga12 ((K3).length) ca12, .slice gb12 ((V3).length) cb12]) rfl (by simp [Value.oneCell']) (by kernel_rfl) ((B13.ext0 x14)) (by simp) (out := [.bool L3, .slice ga12 ((K3).length) ca12, .slice gb12 ((V3).length) cb12]) rfl) ?_
    rintro w15 ⟨B15, x15, t15⟩
    refine s_put rfl rfl (p_store rfl rfl rfl (vs := [.bool L4, .slice gc12 ((K4).length) cc12, .slice gd12 ((V4).length) cd12]) rfl (by simp [Value.oneCell']) (by kernel_rfl) ((B14.ext x15 (show ¬ (b14 = b13) by omega))) (by simp) (out := [.bool L4, .slice gc12 ((K4).length) cc12, .slice gd12 ((V4).length) cd12]) rfl) ?_
    rintro w16 ⟨B16, x16, t16⟩
    refine s_do rfl rfl rfl (d_assign rfl rfl) ?_
    refine s_end ?_
    refine k_seq ?_
    refine s_region ?_
    refine s_do rfl rfl rfl (d_move rfl rfl) ?_
    refine s_do rfl rfl rfl (d_eql rfl rfl rfl) ?_
    refine k_upd 50 (v := .bool true) rfl (congrArg Value.bool (by decide)) ?_
    refine s_do rfl rfl rfl (d_move rfl rfl) ?_
    refine s_do rfl rfl rfl (d_move rfl rfl) ?_
    refine s_do rfl rfl rfl (d_pick_t rfl rfl rfl) ?_
    refine s_do rfl rfl rfl (d_move rfl rfl) ?_
    refine s_part 54 rfl (fun h4 => ?_) (fun h4 => ?_)
    · -- yes: lf = lf ∧ ks = ks ∧ vs = vs
      refine s_do rfl rfl rfl (d_move rfl rfl) ?_
      refine s_do rfl rfl rfl (d_eql rfl rfl rfl) ?_
      refine k_upd 56 (v := .bool true) rfl (congrArg Value.bool (by decide)) ?_
      refine s_do rfl rfl rfl (d_pick_t rfl rfl rfl) ?_
      refine s_do rfl rfl rfl (d_move rfl rfl) ?_
      refine s_do rfl rfl rfl (d_field rfl (k := 1) (r := 1) (by kernel_rfl) rfl rfl) ?_
      refine s_do rfl rfl rfl (d_load rfl rfl (by kernel_rfl) (here ((B15.ext x16 (show ¬ (b13 = b14) by omega)).cel 1 rfl))) ?_
      refine s_do rfl rfl rfl (d_len rfl (z := 1) (by kernel_rfl) rfl) ?_
      refine s_do rfl rfl rfl (d_field rfl (k := 1) (r := 1) (by kernel_rfl) rfl rfl) ?_
      refine s_do rfl rfl rfl (d_load rfl rfl (by kernel_rfl) (here (B16.cel 1 rfl))) ?_
      refine s_do rfl rfl rfl (d_len rfl (z := 1) (by kernel_rfl) rfl) ?_
      refine s_do rfl rfl rfl (d_sub64 rfl rfl rfl (r := ((K3).length : Int) - ((K4).length : Int)) (by omega) (by omega)) ?_
      refine s_do rfl rfl rfl (d_geq rfl rfl rfl) ?_
      refine s_do rfl rfl rfl (d_pick_t rfl rfl rfl) ?_
      refine s_do rfl rfl rfl (d_move rfl rfl) ?_
      refine s_part 68 rfl (fun h5 => ?_) (fun h5 => ?_)
      · -- yes: (0 : Int) ≤ (((K3).length : Int) - ((K4).length : Int))
        refine s_do rfl rfl rfl (d_field rfl (k := 1) (r := 1) (by kernel_rfl) rfl rfl) ?_
        refine s_do rfl rfl rfl (d_load rfl rfl (by kernel_rfl) (here ((B15.ext x16 (show ¬ (b13 = b14) by omega)).cel 1 rfl))) ?_
        refine s_do rfl rfl rfl (d_len rfl (z := 1) (by kernel_rfl) rfl) ?_
        refine s_do rfl rfl rfl (d_field rfl (k := 1) (r := 1) (by kernel_rfl) rfl rfl) ?_
        refine s_do rfl rfl rfl (d_load rfl rfl (by kernel_rfl) (here (B16.cel 1 rfl))) ?_
        refine s_do rfl rfl rfl (d_len rfl (z := 1) (by kernel_rfl) rfl) ?_
        refine s_do rfl rfl rfl (d_sub64 rfl rfl rfl (r := ((K3).length : Int) - ((K4).length : Int)) (by omega) (by omega)) ?_
        refine s_do rfl rfl rfl (d_leq rfl rfl rfl) ?_
        refine s_do rfl rfl rfl (d_pick_t rfl rfl rfl) ?_
        refine s_do rfl rfl rfl (d_move rfl rfl) ?_
        refine s_part 78 rfl (fun h6 => ?_) (fun h6 => ?_)
        · -- yes: (((K3).length : Int) - ((K4).length : Int)) ≤ 1
          refine s_call rfl rfl rfl rfl rfl (fun w => Try.call13 _ w) (lives_c _) ?_
          rintro _ w17 ⟨rfl, x17⟩
          have m17 := x17.size
          refine s_do rfl rfl rfl (d_pick_t rfl rfl rfl) ?_
          refine s_do rfl rfl rfl (d_assign rfl rfl) ?_
          refine s_end ?_
          refine k_ret ?_
          refine doneL rfl [.bool true] ⟨rfl, trivial⟩ (v := .bool true) rfl ?_
          have X := (((((((((((((((((Ext.refl No w).trans x1).trans x2).trans x3).trans x4).trans_new x5 (fun i hi => by subst hi; omega)).trans_new x6 (fun i hi => by subst hi; omega)).trans x8).trans x9).trans_new x10 (fun i hi => by subst hi; omega)).trans x11).trans x12).trans x13).trans x14).trans_new x15 (fun i hi => by subst hi; omega)).trans_new x16 (fun i hi => by subst hi; omega)).trans x17)
          exact ⟨by simp, X⟩
        · exfalso; omega
      · exfalso; omega
    · exact absurd ⟨rfl, rfl, rfl⟩ h4
end Go.Proofs.Yteehoppklgcggaa
