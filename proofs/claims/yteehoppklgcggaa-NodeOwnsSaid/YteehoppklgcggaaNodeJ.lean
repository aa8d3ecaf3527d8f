/-
  Walk of the law of package node: who owns what. No condition.
-/
import Derived.Test.YteehoppklgcggaaNodeG
import Derived.Test.YteehoppklgcggaaNodeD
import Derived.Test.YteehoppklgcggaaNodeQ
set_option maxRecDepth 100000
namespace Go.Proofs.Yteehoppklgcggaa
open Go.RowKit
theorem owns_c (lf : Bool) (kv vv : Value) (ks vs : List Int) (key : Int) (val : Int) (w : World) (hk : RdI kv ks w) (hv : RdI vv vs w) (hbk : ks.length * 8 ≤ 140737488351232) (hbv : vs.length * 8 ≤ 140737488351232) :
    Calls Try.prog 8 #[.agg #[.bool lf, kv, vv], .int .i64 key, .int .i64 val] w (Ret fun v w' => v = .bool true ∧ Ext No w w') := by
  have hk0 := hk; have hv0 := hv
  obtain ⟨ka, kc, rfl, hkc, hkm, hc⟩ := hk0.opened
  obtain ⟨va, vc, rfl, hvc, hvm, hd⟩ := hv0.opened
  refine enter Try.func8 rfl 145 Try.ntmps8 rfl ?_
  refine k_seq ?_
  refine s_region ?_
  refine s_go rfl rfl rfl (g_box rfl rfl rfl) ?_
  rintro _ w1 ⟨b1, rfl, s1, t1, B1, x1⟩
  refine s_do rfl rfl rfl (d_assign rfl rfl) ?_
  refine s_end ?_
  refine k_seq ?_
  refine s_region ?_
  refine s_do rfl rfl rfl (d_field rfl (k := 0) (r := 0) (by kernel_rfl) rfl rfl) ?_
  refine s_do rfl rfl rfl (d_load rfl rfl (by kernel_rfl) (here (B1.cel 0 rfl))) ?_
  refine s_do rfl rfl rfl (d_build rfl rfl (out := [.bool lf, .slice none 0 0, .slice none 0 0]) (by kernel_rfl)) ?_
  refine s_go rfl rfl rfl (g_alloc (P := Try.prog) rfl (zs := [.bool false, .slice none 0 0, .slice none 0 0]) (by kernel_rfl)) ?_
  rintro _ w2 ⟨b2, rfl, s2, t2, B2, x2⟩
  refine s_put rfl rfl (p_store rfl rfl rfl (vs := [.bool lf, .slice none 0 0, .slice none 0 0]) rfl (by simp [Value.oneCell']) (by kernel_rfl) (B2) (by simp) (out := [.bool lf, .slice none 0 0, .slice none 0 0]) rfl) ?_
  rintro w3 ⟨B3, x3, t3⟩
  refine s_end ?_
  refine k_seq ?_
  refine s_region ?_
  refine s_do rfl rfl rfl (d_field rfl (k := 1) (r := 1) (by kernel_rfl) rfl rfl) ?_
  refine s_do rfl rfl rfl (d_load rfl rfl (by kernel_rfl) (here (B3.cel 1 rfl))) ?_
  refine s_do rfl rfl rfl (d_field rfl (k := 1) (r := 1) (by kernel_rfl) rfl rfl) ?_
  refine s_do rfl rfl rfl (d_load rfl rfl (by kernel_rfl) (here (((B1.ext0 x2).ext x3 (show ¬ (b1 = b2) by omega)).cel 1 rfl))) ?_
  refine s_go rfl rfl rfl (g_appendNI rfl rfl rfl rfl (hk.ext0 ((((Ext.refl No w).trans x1).trans x2).trans_new x3 (fun i hi => by subst hi; omega))) (by omega)) ?_
  rintro _ w4 ⟨g4, c4, rfl, O4, x4⟩
  have m4 := x4.size
  refine s_do rfl rfl rfl (d_field rfl (k := 1) (r := 1) (by kernel_rfl) rfl rfl) ?_
  refine s_put rfl rfl (p_store rfl rfl rfl (vs := [.slice g4 ks.length c4]) rfl (by simp [Value.oneCell']) (by kernel_rfl) ((B3.ext0 x4)) (by simp) (out := [.bool lf, .slice g4 ks.length c4, .slice none 0 0]) rfl) ?_
  rintro w5 ⟨B5, x5, t5⟩
  refine s_end ?_
  refine k_seq ?_
  refine s_region ?_
  refine s_do rfl rfl rfl (d_field rfl (k := 2) (r := 2) (by kernel_rfl) rfl rfl) ?_
  refine s_do rfl rfl rfl (d_load rfl rfl (by kernel_rfl) (here (B5.cel 2 rfl))) ?_
  refine s_do rfl rfl rfl (d_field rfl (k := 2) (r := 2) (by kernel_rfl) rfl rfl) ?_
  refine s_do rfl rfl rfl (d_load rfl rfl (by kernel_rfl) (here (((((B1.ext0 x2).ext x3 (show ¬ (b1 = b2) by omega)).ext0 x4).ext x5 (show ¬ (b1 = b2) by omega)).cel 2 rfl))) ?_
  refine s_go rfl rfl rfl (g_appendNI rfl rfl rfl rfl (hv.ext0 ((((((Ext.refl No w).trans x1).trans x2).trans_new x3 (fun i hi => by subst hi; omega)).trans x4).trans_new x5 (fun i hi => by subst hi; omega))) (by omega)) ?_
  rintro _ w6 ⟨g6, c6, rfl, O6, x6⟩
  have m6 := x6.size
  refine s_do rfl rfl rfl (d_field rfl (k := 2) (r := 2) (by kernel_rfl) rfl rfl) ?_
  refine s_put rfl rfl (p_store rfl rfl rfl (vs := [.slice g6 vs.length c6]) rfl (by simp [Value.oneCell']) (by kernel_rfl) ((B5.ext0 x6)) (by simp) (out := [.bool lf, .slice g4 ks.length c4, .slice g6 vs.length c6]) rfl) ?_
  rintro w7 ⟨B7, x7, t7⟩
  refine s_end ?_
  refine k_seq ?_
  refine s_region ?_
  refine s_do rfl rfl rfl (d_assign rfl rfl) ?_
  refine s_end ?_
  refine k_seq ?_
  refine s_region ?_
  refine s_do rfl rfl rfl (d_loadAgg rfl rfl (vs := [.bool lf, .slice ka ks.length kc, .slice va vs.length vc]) (by kernel_rfl) (here (((((((B1.ext0 x2).ext x3 (show ¬ (b1 = b2) by omega)).ext0 x4).ext x5 (show ¬ (b1 = b2) by omega)).ext0 x6).ext x7 (show ¬ (b1 = b2) by omega)).part 0 3 _ rfl))) ?_
  refine s_do rfl rfl rfl (d_move rfl rfl) ?_
  refine s_do rfl rfl rfl (d_move rfl rfl) ?_
  have c5_3 := put_c lf (.slice ka ks.length kc) (.slice va vs.length vc) ks vs key val w7 (hk.ext0 ((((((((Ext.refl No w).trans x1).trans x2).trans_new x3 (fun i hi => by subst hi; omega)).trans x4).trans_new x5 (fun i hi => by subst hi; omega)).trans x6).trans_new x7 (fun i hi => by subst hi; omega))) (hv.ext0 ((((((((Ext.refl No w).trans x1).trans x2).trans_new x3 (fun i hi => by subst hi; omega)).trans x4).trans_new x5 (fun i hi => by subst hi; omega)).trans x6).trans_new x7 (fun i hi => by subst hi; omega)))
  refine s_call rfl rfl rfl rfl rfl (fun w => Try.call18 _ w) (c5_3) ?_
  rintro _ w8 ⟨_, rfl, ⟨ga8, ca8, gb8, cb8, rfl, Oa8, Ob8, Ap8⟩, x8⟩
  have m8 := x8.size
  clear c5_3
  refine s_do rfl rfl rfl (d_move rfl rfl) ?_
  refine s_do rfl rfl rfl (d_extract rfl rfl rfl) ?_
  refine s_do rfl rfl rfl (d_extract rfl rfl rfl) ?_
  refine s_go rfl rfl rfl (g_alloc (P := Try.prog) rfl (zs := [.bool false, .slice none 0 0, .slice none 0 0]) (by kernel_rfl)) ?_
  rintro _ w9 ⟨b9, rfl, s9, t9, B9, x9⟩
  refine s_put rfl rfl (p_store rfl rfl rfl (vs := [.bool ((putN lf ks vs key val).1), .slice ga8 (((putN lf ks vs key val).2.1).length) ca8, .slice gb8 (((putN lf ks vs key val).2.2.1).length) cb8]) rfl (by simp [Value.oneCell']) (by kernel_rfl) (B9) (by simp) (out := [.bool ((putN lf ks vs key val).1), .slice ga8 (((putN lf ks vs key val).2.1).length) ca8, .slice gb8 (((putN lf ks vs key val).2.2.1).length) cb8]) rfl) ?_
  rintro w10 ⟨B10, x10, t10⟩
  refine s_do rfl rfl rfl (d_assign rfl rfl) ?_
  refine s_end ?_
  refine k_seq ?_
  refine s_region ?_
  refine s_do rfl rfl rfl (d_loadAgg rfl rfl (vs := [.bool lf, .slice ka ks.length kc, .slice va vs.length vc]) (by kernel_rfl) (here ((((((((((B1.ext0 x2).ext x3 (show ¬ (b1 = b2) by omega)).ext0 x4).ext x5 (show ¬ (b1 = b2) by omega)).ext0 x6).ext x7 (show ¬ (b1 = b2) by omega)).ext0 x8).ext0 x9).ext x10 (show ¬ (b1 = b9) by omega)).part 0 3 _ rfl))) ?_
  refine s_do rfl rfl rfl (d_move rfl rfl) ?_
  have c6_2 := drop_c lf (.slice ka ks.length kc) (.slice va vs.length vc) ks vs key w10 (hk.ext0 (((((((((((Ext.refl No w).trans x1).trans x2).trans_new x3 (fun i hi => by subst hi; omega)).trans x4).trans_new x5 (fun i hi => by subst hi; omega)).trans x6).trans_new x7 (fun i hi => by subst hi; omega)).trans x8).trans x9).trans_new x10 (fun i hi => by subst hi; omega))) (hv.ext0 (((((((((((Ext.refl No w).trans x1).trans x2).trans_new x3 (fun i hi => by subst hi; omega)).trans x4).trans_new x5 (fun i hi => by subst hi; omega)).trans x6).trans_new x7 (fun i hi => by subst hi; omega)).trans x8).trans x9).trans_new x10 (fun i hi => by subst hi; omega)))
  refine s_call rfl rfl rfl rfl rfl (fun w => Try.call21 _ w) (c6_2) ?_
  rintro _ w11 ⟨_, rfl, ⟨ga11, ca11, gb11, cb11, rfl, Oa11, Ob11, Ap11⟩, x11⟩
  have m11 := x11.size
  clear c6_2
  refine s_do rfl rfl rfl (d_move rfl rfl) ?_
  refine s_do rfl rfl rfl (d_extract rfl rfl rfl) ?_
  refine s_do rfl rfl rfl (d_extract rfl rfl rfl) ?_
  refine s_go rfl rfl rfl (g_alloc (P := Try.prog) rfl (zs := [.bool false, .slice none 0 0, .slice none 0 0]) (by kernel_rfl)) ?_
  rintro _ w12 ⟨b12, rfl, s12, t12, B12, x12⟩
  refine s_put rfl rfl (p_store rfl rfl rfl (vs := [.bool ((dropN lf ks vs key).1), .slice ga11 (((dropN lf ks vs key).2.1).length) ca11, .slice gb11 (((dropN lf ks vs key).2.2.1).length) cb11]) rfl (by simp [Value.oneCell']) (by kernel_rfl) (B12) (by simp) (out := [.bool ((dropN lf ks vs key).1), .slice ga11 (((dropN lf ks vs key).2.1).length) ca11, .slice gb11 (((dropN lf ks vs key).2.2.1).length) cb11]) rfl) ?_
  rintro w13 ⟨B13, x13, t13⟩
  refine s_do rfl rfl rfl (d_assign rfl rfl) ?_
  refine s_end ?_
  refine k_seq ?_
  refine s_region ?_
  refine s_do rfl rfl rfl (d_loadAgg rfl rfl (vs := [.bool lf, .slice ka ks.length kc, .slice va vs.length vc]) (by kernel_rfl) (here (((((((((((((B1.ext0 x2).ext x3 (show ¬ (b1 = b2) by omega)).ext0 x4).ext x5 (show ¬ (b1 = b2) by omega)).ext0 x6).ext x7 (show ¬ (b1 = b2) by omega)).ext0 x8).ext0 x9).ext x10 (show ¬ (b1 = b9) by omega)).ext0 x11).ext0 x12).ext x13 (show ¬ (b1 = b12) by omega)).part 0 3 _ rfl))) ?_
  refine s_call rfl rfl rfl rfl rfl (fun w => Try.call23 _ w) (split_c lf (.slice ka ks.length kc) (.slice va vs.length vc) ks vs w13 (hk.ext0 ((((((((((((((Ext.refl No w).trans x1).trans x2).trans_new x3 (fun i hi => by subst hi; omega)).trans x4).trans_new x5 (fun i hi => by subst hi; omega)).trans x6).trans_new x7 (fun i hi => by subst hi; omega)).trans x8).trans x9).trans_new x10 (fun i hi => by subst hi; omega)).trans x11).trans x12).trans_new x13 (fun i hi => by subst hi; omega))) (hv.ext0 ((((((((((((((Ext.refl No w).trans x1).trans x2).trans_new x3 (fun i hi => by subst hi; omega)).trans x4).trans_new x5 (fun i hi => by subst hi; omega)).trans x6).trans_new x7 (fun i hi => by subst hi; omega)).trans x8).trans x9).trans_new x10 (fun i hi => by subst hi; omega)).trans x11).trans x12).trans_new x13 (fun i hi => by subst hi; omega)))) ?_
  rintro _ w14 ⟨_, _, rfl, ⟨ga14, ca14, gb14, cb14, rfl, Oa14, Ob14, Ap14⟩, ⟨gc14, cc14, gd14, cd14, rfl, Oc14, Od14, Aq14⟩, Ax14, x14⟩
  have m14 := x14.size
  obtain ⟨Aac14, Aad14, Abc14, Abd14⟩ := Ax14 _ _ _ _ _ _ rfl rfl
  refine s_do rfl rfl rfl (d_move rfl rfl) ?_
  refine s_do rfl rfl rfl (d_extract rfl rfl rfl) ?_
  refine s_do rfl rfl rfl (d_extract rfl rfl rfl) ?_
  refine s_do rfl rfl rfl (d_extract rfl rfl rfl) ?_
  refine s_go rfl rfl rfl (g_alloc (P := Try.prog) rfl (zs := [.bool false, .slice none 0 0, .slice none 0 0]) (by kernel_rfl)) ?_
  rintro _ w15 ⟨b15, rfl, s15, t15, B15, x15⟩
  refine s_go rfl rfl rfl (g_alloc (P := Try.prog) rfl (zs := [.bool false, .slice none 0 0, .slice none 0 0]) (by kernel_rfl)) ?_
  rintro _ w16 ⟨b16, rfl, s16, t16, B16, x16⟩
  refine s_put rfl rfl (p_store rfl rfl rfl (vs := [.bool ((splitN lf ks vs).1.1), .slice ga14 (((splitN lf ks vs).1.2.1).length) ca14, .slice gb14 (((splitN lf ks vs).1.2.2).length) cb14]) rfl (by simp [Value.oneCell']) (by kernel_rfl) ((B15.ext0 x16)) (by simp) (out := [.bool ((splitN lf ks vs).1.1), .slice ga14 (((splitN lf ks vs).1.2.1).length) ca14, .slice gb14 (((splitN lf ks vs).1.2.2).length) cb14]) rfl) ?_
  rintro w17 ⟨B17, x17, t17⟩
  refine s_put rfl rfl (p_store rfl rfl rfl (vs := [.bool ((splitN lf ks vs).2.1.1), .slice gc14 (((splitN lf ks vs).2.1.2.1).length) cc14, .slice gd14 (((splitN lf ks vs).2.1.2.2).length) cd14]) rfl (by simp [Value.oneCell']) (by kernel_rfl) ((B16.ext x17 (show ¬ (b16 = b15) by omega))) (by simp) (out := [.bool ((splitN lf ks vs).2.1.1), .slice gc14 (((splitN lf ks vs).2.1.2.1).length) cc14, .slice gd14 (((splitN lf ks vs).2.1.2.2).length) cd14]) rfl) ?_
  rintro w18 ⟨B18, x18, t18⟩
  refine s_do rfl rfl rfl (d_assign rfl rfl) ?_
  refine s_end ?_
  refine k_seq ?_
  refine s_region ?_
  refine s_do rfl rfl rfl (d_move rfl rfl) ?_
  refine s_do rfl rfl rfl (d_loadAgg rfl rfl (vs := [.bool ((putN lf ks vs key val).1), .slice ga8 (((putN lf ks vs key val).2.1).length) ca8, .slice gb8 (((putN lf ks vs key val).2.2.1).length) cb8]) (by kernel_rfl) (here (((((((((B10.ext0 x11).ext0 x12).ext x13 (show ¬ (b9 = b12) by omega)).ext0 x14).ext0 x15).ext0 x16).ext x17 (show ¬ (b9 = b15) by omega)).ext x18 (show ¬ (b9 = b16) by omega)).part 0 3 _ rfl))) ?_
  refine s_do rfl rfl rfl (d_loadAgg rfl rfl (vs := [.bool ((dropN lf ks vs key).1), .slice ga11 (((dropN lf ks vs key).2.1).length) ca11, .slice gb11 (((dropN lf ks vs key).2.2.1).length) cb11]) (by kernel_rfl) (here ((((((B13.ext0 x14).ext0 x15).ext0 x16).ext x17 (show ¬ (b12 = b15) by omega)).ext x18 (show ¬ (b12 = b16) by omega)).part 0 3 _ rfl))) ?_
  refine s_do rfl rfl rfl (d_loadAgg rfl rfl (vs := [.bool ((splitN lf ks vs).1.1), .slice ga14 (((splitN lf ks vs).1.2.1).length) ca14, .slice gb14 (((splitN lf ks vs).1.2.2).length) cb14]) (by kernel_rfl) (here ((B17.ext x18 (show ¬ (b15 = b16) by omega)).part 0 3 _ rfl))) ?_
  refine s_do rfl rfl rfl (d_loadAgg rfl rfl (vs := [.bool ((splitN lf ks vs).2.1.1), .slice gc14 (((splitN lf ks vs).2.1.2.1).length) cc14, .slice gd14 (((splitN lf ks vs).2.1.2.2).length) cd14]) (by kernel_rfl) (here (B18.part 0 3 _ rfl))) ?_
  refine s_go rfl rfl rfl (g_buildSlice (z := .agg #[.bool false, .slice none 0 0, .slice none 0 0]) (by_ := 56) (sz := 3) (len := 4) (parts := [(0, .tmp 63), (1, .tmp 64), (2, .tmp 65), (3, .tmp 66)]) (vs := [(0, .agg #[.bool ((putN lf ks vs key val).1), .slice ga8 (((putN lf ks vs key val).2.1).length) ca8, .slice gb8 (((putN lf ks vs key val).2.2.1).length) cb8]), (1, .agg #[.bool ((dropN lf ks vs key).1), .slice ga11 (((dropN lf ks vs key).2.1).length) ca11, .slice gb11 (((dropN lf ks vs key).2.2.1).length) cb11]), (2, .agg #[.bool ((splitN lf ks vs).1.1), .slice ga14 (((splitN lf ks vs).1.2.1).length) ca14, .slice gb14 (((splitN lf ks vs).1.2.2).length) cb14]), (3, .agg #[.bool ((splitN lf ks vs).2.1.1), .slice gc14 (((splitN lf ks vs).2.1.2.1).length) cc14, .slice gd14 (((splitN lf ks vs).2.1.2.2).length) cd14])]) (out := [.bool ((putN lf ks vs key val).1), .slice ga8 (((putN lf ks vs key val).2.1).length) ca8, .slice gb8 (((putN lf ks vs key val).2.2.1).length) cb8, .bool ((dropN lf ks vs key).1), .slice ga11 (((dropN lf ks vs key).2.1).length) ca11, .slice gb11 (((dropN lf ks vs key).2.2.1).length) cb11, .bool ((splitN lf ks vs).1.1), .slice ga14 (((splitN lf ks vs).1.2.1).length) ca14, .slice gb14 (((splitN lf ks vs).1.2.2).length) cb14, .bool ((splitN lf ks vs).2.1.1), .slice gc14 (((splitN lf ks vs).2.1.2.1).length) cc14, .slice gd14 (((splitN lf ks vs).2.1.2.2).length) cd14]) rfl tyN eltN rfl (by omega) (by omega) (by kernel_rfl)) ?_
  rintro _ w19 ⟨b19, rfl, s19, t19, B19, x19⟩
  have m19 := x19.size
  refine s_go rfl rfl rfl (g_appendN (z := .agg #[.bool false, .slice none 0 0, .slice none 0 0]) (by_ := 56) (sz := 3) rfl tyN eltN rfl rfl (rd_row (len := 4) B19 rfl (by omega)) (by simp [Value.oneCell']) (by omega)) ?_
  rintro _ w20 ⟨Oall, x20⟩
  have m20 := x20.size
  obtain ⟨b20, c20, rfl, lo20, hi20, hall⟩ := Own.pos Oall (by omega)
  refine s_do rfl rfl rfl (d_assign rfl rfl) ?_
  refine s_end ?_
  refine k_seq ?_
  refine k_seq ?_
  refine s_region ?_
  have l8p := put_len lf ks vs key val
  have l8d := drop_len lf ks vs key
  have l8s := split_len lf ks vs
  obtain ⟨A, N, C, hl8, hN8, hF8, R8⟩ := rows8 (B := w7.heap.size) (bg := b20) (w := w20) (l := [.slice ga8 (((putN lf ks vs key val).2.1).length) ca8, .slice gb8 (((putN lf ks vs key val).2.2.1).length) cb8, .slice ga11 (((dropN lf ks vs key).2.1).length) ca11, .slice gb11 (((dropN lf ks vs key).2.2.1).length) cb11, .slice ga14 (((splitN lf ks vs).1.2.1).length) ca14, .slice gb14 (((splitN lf ks vs).1.2.2).length) cb14, .slice gc14 (((splitN lf ks vs).2.1.2.1).length) cc14, .slice gd14 (((splitN lf ks vs).2.1.2.2).length) cd14]) rfl (List.forall_mem_cons.2 ⟨⟨⟨_, _, _, rfl, (by omega)⟩, ⟨_, (((((((((((((Oa8.ext0 x9).extb x10 (own_ne Oa8 (by omega))).ext0 x11).ext0 x12).extb x13 (own_ne Oa8 (by omega))).ext0 x14).ext0 x15).ext0 x16).extb x17 (own_ne Oa8 (by omega))).extb x18 (own_ne Oa8 (by omega))).ext0 x19).ext0 x20)).base (by omega)⟩, (own_ne Oa8 (by omega))⟩, (List.forall_mem_cons.2 ⟨⟨⟨_, _, _, rfl, (by omega)⟩, ⟨_, (((((((((((((Ob8.ext0 x9).extb x10 (own_ne Ob8 (by omega))).ext0 x11).ext0 x12).extb x13 (own_ne Ob8 (by omega))).ext0 x14).ext0 x15).ext0 x16).extb x17 (own_ne Ob8 (by omega))).extb x18 (own_ne Ob8 (by omega))).ext0 x19).ext0 x20)).base (by omega)⟩, (own_ne Ob8 (by omega))⟩, (List.forall_mem_cons.2 ⟨⟨⟨_, _, _, rfl, (by omega)⟩, ⟨_, ((((((((((Oa11.ext0 x12).extb x13 (own_ne Oa11 (by omega))).ext0 x14).ext0 x15).ext0 x16).extb x17 (own_ne Oa11 (by omega))).extb x18 (own_ne Oa11 (by omega))).ext0 x19).ext0 x20)).base (by omega)⟩, (own_ne Oa11 (by omega))⟩, (List.forall_mem_cons.2 ⟨⟨⟨_, _, _, rfl, (by omega)⟩, ⟨_, ((((((((((Ob11.ext0 x12).extb x13 (own_ne Ob11 (by omega))).ext0 x14).ext0 x15).ext0 x16).extb x17 (own_ne Ob11 (by omega))).extb x18 (own_ne Ob11 (by omega))).ext0 x19).ext0 x20)).base (by omega)⟩, (own_ne Ob11 (by omega))⟩, (List.forall_mem_cons.2 ⟨⟨⟨_, _, _, rfl, (by omega)⟩, ⟨_, (((((((Oa14.ext0 x15).ext0 x16).extb x17 (own_ne Oa14 (by omega))).extb x18 (own_ne Oa14 (by omega))).ext0 x19).ext0 x20)).base (by omega)⟩, (own_ne Oa14 (by omega))⟩, (List.forall_mem_cons.2 ⟨⟨⟨_, _, _, rfl, (by omega)⟩, ⟨_, (((((((Ob14.ext0 x15).ext0 x16).extb x17 (own_ne Ob14 (by omega))).extb x18 (own_ne Ob14 (by omega))).ext0 x19).ext0 x20)).base (by omega)⟩, (own_ne Ob14 (by omega))⟩, (List.forall_mem_cons.2 ⟨⟨⟨_, _, _, rfl, (by omega)⟩, ⟨_, (((((((Oc14.ext0 x15).ext0 x16).extb x17 (own_ne Oc14 (by omega))).extb x18 (own_ne Oc14 (by omega))).ext0 x19).ext0 x20)).base (by omega)⟩, (own_ne Oc14 (by omega))⟩, (List.forall_mem_cons.2 ⟨⟨⟨_, _, _, rfl, (by omega)⟩, ⟨_, (((((((Od14.ext0 x15).ext0 x16).extb x17 (own_ne Od14 (by omega))).extb x18 (own_ne Od14 (by omega))).ext0 x19).ext0 x20)).base (by omega)⟩, (own_ne Od14 (by omega))⟩, (fun _ h => by cases h)⟩)⟩)⟩)⟩)⟩)⟩)⟩)⟩) (.cons (List.forall_mem_cons.2 ⟨Ap8, (List.forall_mem_cons.2 ⟨(OwnI.apart Oa8 Oa11 (by omega)), (List.forall_mem_cons.2 ⟨(OwnI.apart Oa8 Ob11 (by omega)), (List.forall_mem_cons.2 ⟨(OwnI.apart Oa8 Oa14 (by omega)), (List.forall_mem_cons.2 ⟨(OwnI.apart Oa8 Ob14 (by omega)), (List.forall_mem_cons.2 ⟨(OwnI.apart Oa8 Oc14 (by omega)), (List.forall_mem_cons.2 ⟨(OwnI.apart Oa8 Od14 (by omega)), (fun _ h => by cases h)⟩)⟩)⟩)⟩)⟩)⟩)⟩) (.cons (List.forall_mem_cons.2 ⟨(OwnI.apart Ob8 Oa11 (by omega)), (List.forall_mem_cons.2 ⟨(OwnI.apart Ob8 Ob11 (by omega)), (List.forall_mem_cons.2 ⟨(OwnI.apart Ob8 Oa14 (by omega)), (List.forall_mem_cons.2 ⟨(OwnI.apart Ob8 Ob14 (by omega)), (List.forall_mem_cons.2 ⟨(OwnI.apart Ob8 Oc14 (by omega)), (List.forall_mem_cons.2 ⟨(OwnI.apart Ob8 Od14 (by omega)), (fun _ h => by cases h)⟩)⟩)⟩)⟩)⟩)⟩) (.cons (List.forall_mem_cons.2 ⟨Ap11, (List.forall_mem_cons.2 ⟨(OwnI.apart Oa11 Oa14 (by omega)), (List.forall_mem_cons.2 ⟨(OwnI.apart Oa11 Ob14 (by omega)), (List.forall_mem_cons.2 ⟨(OwnI.apart Oa11 Oc14 (by omega)), (List.forall_mem_cons.2 ⟨(OwnI.apart Oa11 Od14 (by omega)), (fun _ h => by cases h)⟩)⟩)⟩)⟩)⟩) (.cons (List.forall_mem_cons.2 ⟨(OwnI.apart Ob11 Oa14 (by omega)), (List.forall_mem_cons.2 ⟨(OwnI.apart Ob11 Ob14 (by omega)), (List.forall_mem_cons.2 ⟨(OwnI.apart Ob11 Oc14 (by omega)), (List.forall_mem_cons.2 ⟨(OwnI.apart Ob11 Od14 (by omega)), (fun _ h => by cases h)⟩)⟩)⟩)⟩) (.cons (List.forall_mem_cons.2 ⟨Ap14, (List.forall_mem_cons.2 ⟨Aac14, (List.forall_mem_cons.2 ⟨Aad14, (fun _ h => by cases h)⟩)⟩)⟩) (.cons (List.forall_mem_cons.2 ⟨Abc14, (List.forall_mem_cons.2 ⟨Abd14, (fun _ h => by cases h)⟩)⟩) (.cons (List.forall_mem_cons.2 ⟨Aq14, (fun _ h => by cases h)⟩) (.cons (fun _ h => by cases h) .nil))))))))
  have hcel := cells8 hall hl8
  refine s_do rfl rfl rfl (d_assign rfl rfl) ?_
  refine s_end ?_
  refine k_block ?_
  refine c_loop (σ := Nat) (fun i => [(16, .int .i64 (i : Int)), (1, .int .i64 key), (2, .int .i64 val), (3, .pointer (some ⟨b1, 0, none⟩)), (6, .bool false), (7, .pointer (some ⟨b2, 0, none⟩)), (8, .slice (some ⟨b20, 0, none⟩) 4 c20)])
    (fun i wr => Ext (Fq w7.heap.size b20) w20 wr ∧ (i ≤ 4 ∧ From w7.heap.size (2 * i) (fun q => .slice (A q) (N q) (C q)) wr)) (fun i => 4 - i) 0
    (fun _ hF => (hF.cons (hF.cons (hF.cons (hF.cons (hF.cons (hF.cons (hF.cons hF.nil 8 _ _ rfl rfl) 7 _ _ rfl rfl) 6 _ _ rfl rfl) 3 _ _ rfl rfl) 2 _ _ rfl rfl) 1 _ _ rfl rfl) 16 _ _ rfl (by go_num))) ⟨Ext.refl _ _, by omega, hF8.le (by omega)⟩ ?_
  rintro i wr21 ⟨x21, hI⟩
  have m21 := x21.size
  obtain ⟨hi4, hfr⟩ := hI
  refine k_seq ?_
  refine k_seq ?_
  refine s_region ?_
  refine s_do rfl rfl rfl (d_move rfl rfl) ?_
  refine s_do rfl rfl rfl (d_move rfl rfl) ?_
  refine s_do rfl rfl rfl (d_len rfl (z := 3) (by kernel_rfl) rfl) ?_
  refine s_do rfl rfl rfl (d_lss rfl rfl rfl) ?_
  refine s_end ?_
  refine k_dec rfl (fun h1 => ?_) (fun h1 => ?_)
  · -- yes: (i : Int) < 4
    refine k_skip ?_
    refine k_seq ?_
    refine k_block ?_
    refine k_seq ?_
    refine s_region ?_
    have hNa := hN8 (2 * i) (by omega)
    have hNb := hN8 (2 * i + 1) (by omega)
    refine s_do rfl rfl rfl (d_move rfl rfl) ?_
    refine s_do rfl rfl rfl (d_move rfl rfl) ?_
    refine s_do rfl rfl rfl (d_indexE rfl (z := 3) (j := i) (r := i * 3) (by kernel_rfl) rfl rfl rfl (by omega) ((hcel i (by omega)).1) (by omega)) ?_
    refine s_do rfl rfl rfl (d_fieldE rfl (k := 1) (r := i * 3 + 1) (by kernel_rfl) rfl ((hcel i (by omega)).1) rfl) ?_
    refine s_do rfl rfl rfl (d_loadE rfl rfl (by kernel_rfl) (here ((((hcel i (by omega)).1).ext x21 (fun b p e q => by cases e; exact q.2 rfl))))) ?_
    refine s_do rfl rfl rfl (d_assign rfl rfl) ?_
    refine s_end ?_
    refine k_seq ?_
    refine s_region ?_
    refine s_do rfl rfl rfl (d_move rfl rfl) ?_
    refine s_do rfl rfl rfl (d_move rfl rfl) ?_
    refine s_do rfl rfl rfl (d_indexE rfl (z := 3) (j := i) (r := i * 3) (by kernel_rfl) rfl rfl rfl (by omega) ((hcel i (by omega)).2) (by omega)) ?_
    refine s_do rfl rfl rfl (d_fieldE rfl (k := 2) (r := i * 3 + 2) (by kernel_rfl) rfl ((hcel i (by omega)).2) rfl) ?_
    refine s_do rfl rfl rfl (d_loadE rfl rfl (by kernel_rfl) (here ((((hcel i (by omega)).2).ext x21 (fun b p e q => by cases e; exact q.2 rfl))))) ?_
    refine s_do rfl rfl rfl (d_assign rfl rfl) ?_
    refine s_end ?_
    refine k_seq ?_
    refine k_seq ?_
    refine s_region ?_
    refine s_do rfl rfl rfl (d_assign rfl rfl) ?_
    refine s_end ?_
    refine k_block ?_
    refine c_loop (σ := Nat) (fun j => [(19, .int .i64 (j : Int)), (1, .int .i64 key), (2, .int .i64 val), (3, .pointer (some ⟨b1, 0, none⟩)), (6, .bool false), (7, .pointer (some ⟨b2, 0, none⟩)), (8, .slice (some ⟨b20, 0, none⟩) 4 c20), (16, .int .i64 (i : Int)), (17, .slice (A (2 * i)) (N (2 * i)) (C (2 * i))), (18, .slice (A (2 * i + 1)) (N (2 * i + 1)) (C (2 * i + 1))), (69, .int .i64 (i : Int)), (70, .slice (some ⟨b20, 0, none⟩) 4 c20), (71, .int .i64 4), (72, .bool (decide ((i : Int) < 4))), (75, .slice (some ⟨b20, 0, none⟩) 4 c20), (76, .int .i64 (i : Int)), (77, eptr (some ⟨b20, 0, none⟩) (i * 3)), (78, eptr (some ⟨b20, 0, none⟩) (i * 3 + 1)), (79, .slice (A (2 * i)) (N (2 * i)) (C (2 * i))), (80, .slice (some ⟨b20, 0, none⟩) 4 c20), (81, .int .i64 (i : Int)), (82, eptr (some ⟨b20, 0, none⟩) (i * 3)), (83, eptr (some ⟨b20, 0, none⟩) (i * 3 + 2)), (84, .slice (A (2 * i + 1)) (N (2 * i + 1)) (C (2 * i + 1)))])
      (fun j wr => Ext (Fq w7.heap.size b20) wr21 wr ∧ (j ≤ N (2 * i) ∧ From w7.heap.size (2 * i) (fun q => .slice (A q) (N q) (C q)) wr)) (fun j => N (2 * i) - j) 0
      (fun _ hF => (hF.cons (hF.cons (hF.cons (hF.cons (hF.cons (hF.cons (hF.cons (hF.cons (hF.cons (hF.cons (hF.cons (hF.cons (hF.cons (hF.cons (hF.cons (hF.cons (hF.cons (hF.cons (hF.cons (hF.cons (hF.cons (hF.cons (hF.cons (hF.cons hF.nil 84 _ _ rfl rfl) 83 _ _ rfl rfl) 82 _ _ rfl rfl) 81 _ _ rfl rfl) 80 _ _ rfl rfl) 79 _ _ rfl rfl) 78 _ _ rfl rfl) 77 _ _ rfl rfl) 76 _ _ rfl rfl) 75 _ _ rfl rfl) 72 _ _ rfl rfl) 71 _ _ rfl rfl) 70 _ _ rfl rfl) 69 _ _ rfl rfl) 18 _ _ rfl rfl) 17 _ _ rfl rfl) 16 _ _ rfl rfl) 8 _ _ rfl rfl) 7 _ _ rfl rfl) 6 _ _ rfl rfl) 3 _ _ rfl rfl) 2 _ _ rfl rfl) 1 _ _ rfl rfl) 19 _ _ rfl (by go_num))) ⟨Ext.refl _ _, by omega, hfr⟩ ?_
    rintro j wr22 ⟨x22, hI⟩
    have m22 := x22.size
    obtain ⟨hjl, hfr2⟩ := hI
    refine k_seq ?_
    refine k_seq ?_
    refine s_region ?_
    refine s_do rfl rfl rfl (d_move rfl rfl) ?_
    refine s_do rfl rfl rfl (d_move rfl rfl) ?_
    refine s_do rfl rfl rfl (d_len rfl (z := 1) (by kernel_rfl) rfl) ?_
    refine s_do rfl rfl rfl (d_lss rfl rfl rfl) ?_
    refine s_end ?_
    refine k_dec rfl (fun h2 => ?_) (fun h2 => ?_)
    · -- yes: (j : Int) < ((N (2 * i)) : Int)
      refine k_skip ?_
      refine k_seq ?_
      refine k_block ?_
      refine s_region ?_
      refine s_do rfl rfl rfl (d_move rfl rfl) ?_
      refine s_do rfl rfl rfl (d_move rfl rfl) ?_
      obtain ⟨xs, O0⟩ := hfr2 (2 * i) (by omega) (by omega)
      have O : OwnI 3 w7.heap.size (.slice (A (2 * i)) (N (2 * i)) (C (2 * i))) xs wr22 := O0
      have hxl := O.len
      obtain ⟨xv, hxv⟩ := OwnI.at_ O (j := j) (by omega)
      refine s_do rfl rfl rfl (d_indexE rfl (z := 1) (j := j) (r := j) (by kernel_rfl) rfl rfl rfl (by omega) hxv (by omega)) ?_
      have o23 := O
      refine s_put rfl rfl (p_storeI rfl rfl rfl o23 (by omega)) ?_
      rintro w23 ⟨O23, x23⟩
      have m23 := x23.size
      refine s_end ?_
      refine s_region ?_
      refine s_do rfl rfl rfl (d_move rfl rfl) ?_
      refine s_do rfl rfl rfl (d_add64 rfl rfl rfl (r := (j : Int) + 1) (by omega) (by omega)) ?_
      refine s_do rfl rfl rfl (d_assign rfl rfl) ?_
      refine s_end ?_
      intro _ hF
      refine ⟨(j + 1), (hF.cons (hF.cons (hF.cons (hF.cons (hF.cons (hF.cons (hF.cons (hF.cons (hF.cons (hF.cons (hF.cons (hF.cons (hF.cons (hF.cons (hF.cons (hF.cons (hF.cons (hF.cons (hF.cons (hF.cons (hF.cons (hF.cons (hF.cons (hF.cons hF.nil 84 _ _ rfl rfl) 83 _ _ rfl rfl) 82 _ _ rfl rfl) 81 _ _ rfl rfl) 80 _ _ rfl rfl) 79 _ _ rfl rfl) 78 _ _ rfl rfl) 77 _ _ rfl rfl) 76 _ _ rfl rfl) 75 _ _ rfl rfl) 72 _ _ rfl rfl) 71 _ _ rfl rfl) 70 _ _ rfl rfl) 69 _ _ rfl rfl) 18 _ _ rfl rfl) 17 _ _ rfl rfl) 16 _ _ rfl rfl) 8 _ _ rfl rfl) 7 _ _ rfl rfl) 6 _ _ rfl rfl) 3 _ _ rfl rfl) 2 _ _ rfl rfl) 1 _ _ rfl rfl) 19 _ _ rfl (by go_num)), ⟨(x22.trans (x23.row o23 (R8.ne (2 * i) (by omega)))), ?_⟩, ?_⟩
      · exact ⟨by omega, hfr2.put R8 (by omega) x23 ⟨_, O23⟩⟩
      · omega
    · -- no: (j : Int) < ((N (2 * i)) : Int)
      refine k_exit ?_
      refine k_here ?_
      refine k_seq ?_
      refine k_seq ?_
      refine s_region ?_
      refine s_do rfl rfl rfl (d_assign rfl rfl) ?_
      refine s_end ?_
      refine k_block ?_
      refine c_loop (σ := Nat) (fun k => [(20, .int .i64 (k : Int)), (1, .int .i64 key), (2, .int .i64 val), (3, .pointer (some ⟨b1, 0, none⟩)), (6, .bool false), (7, .pointer (some ⟨b2, 0, none⟩)), (8, .slice (some ⟨b20, 0, none⟩) 4 c20), (16, .int .i64 (i : Int)), (17, .slice (A (2 * i)) (N (2 * i)) (C (2 * i))), (18, .slice (A (2 * i + 1)) (N (2 * i + 1)) (C (2 * i + 1))), (19, .int .i64 (j : Int)), (69, .int .i64 (i : Int)), (70, .slice (some ⟨b20, 0, none⟩) 4 c20), (71, .int .i64 4), (72, .bool (decide ((i : Int) < 4))), (75, .slice (some ⟨b20, 0, none⟩) 4 c20), (76, .int .i64 (i : Int)), (77, eptr (some ⟨b20, 0, none⟩) (i * 3)), (78, eptr (some ⟨b20, 0, none⟩) (i * 3 + 1)), (79, .slice (A (2 * i)) (N (2 * i)) (C (2 * i))), (80, .slice (some ⟨b20, 0, none⟩) 4 c20), (81, .int .i64 (i : Int)), (82, eptr (some ⟨b20, 0, none⟩) (i * 3)), (83, eptr (some ⟨b20, 0, none⟩) (i * 3 + 2)), (84, .slice (A (2 * i + 1)) (N (2 * i + 1)) (C (2 * i + 1))), (85, .int .i64 (j : Int)), (86, .slice (A (2 * i)) (N (2 * i)) (C (2 * i))), (87, .int .i64 ((N (2 * i)) : Int)), (88, .bool (decide ((j : Int) < ((N (2 * i)) : Int))))])
        (fun k wr => Ext (Fq w7.heap.size b20) wr22 wr ∧ (k ≤ N (2 * i + 1) ∧ From w7.heap.size (2 * i) (fun q => .slice (A q) (N q) (C q)) wr)) (fun k => N (2 * i + 1) - k) 0
        (fun _ hF => (hF.cons (hF.cons (hF.cons (hF.cons (hF.cons (hF.cons (hF.cons (hF.cons (hF.cons (hF.cons (hF.cons (hF.cons (hF.cons (hF.cons (hF.cons (hF.cons (hF.cons (hF.cons (hF.cons (hF.cons (hF.cons (hF.cons (hF.cons (hF.cons (hF.cons (hF.cons (hF.cons (hF.cons (hF.cons hF.nil 88 _ _ rfl rfl) 87 _ _ rfl rfl) 86 _ _ rfl rfl) 85 _ _ rfl rfl) 84 _ _ rfl rfl) 83 _ _ rfl rfl) 82 _ _ rfl rfl) 81 _ _ rfl rfl) 80 _ _ rfl rfl) 79 _ _ rfl rfl) 78 _ _ rfl rfl) 77 _ _ rfl rfl) 76 _ _ rfl rfl) 75 _ _ rfl rfl) 72 _ _ rfl rfl) 71 _ _ rfl rfl) 70 _ _ rfl rfl) 69 _ _ rfl rfl) 19 _ _ rfl rfl) 18 _ _ rfl rfl) 17 _ _ rfl rfl) 16 _ _ rfl rfl) 8 _ _ rfl rfl) 7 _ _ rfl rfl) 6 _ _ rfl rfl) 3 _ _ rfl rfl) 2 _ _ rfl rfl) 1 _ _ rfl rfl) 20 _ _ rfl (by go_num))) ⟨Ext.refl _ _, by omega, hfr2⟩ ?_
      rintro k wr24 ⟨x24, hI⟩
      have m24 := x24.size
      obtain ⟨hkl, hfr3⟩ := hI
      refine k_seq ?_
      refine k_seq ?_
      refine s_region ?_
      refine s_do rfl rfl rfl (d_move rfl rfl) ?_
      refine s_do rfl rfl rfl (d_move rfl rfl) ?_
      refine s_do rfl rfl rfl (d_len rfl (z := 1) (by kernel_rfl) rfl) ?_
      refine s_do rfl rfl rfl (d_lss rfl rfl rfl) ?_
      refine s_end ?_
      refine k_dec rfl (fun h3 => ?_) (fun h3 => ?_)
      · -- yes: (k : Int) < ((N (2 * i + 1)) : Int)
        refine k_skip ?_
        refine k_seq ?_
        refine k_block ?_
        refine s_region ?_
        refine s_do rfl rfl rfl (d_move rfl rfl) ?_
        refine s_do rfl rfl rfl (d_move rfl rfl) ?_
        obtain ⟨xs, O0⟩ := hfr3 (2 * i + 1) (by omega) (by omega)
        have O : OwnI 3 w7.heap.size (.slice (A (2 * i + 1)) (N (2 * i + 1)) (C (2 * i + 1))) xs wr24 := O0
        have hxl := O.len
        obtain ⟨xv, hxv⟩ := OwnI.at_ O (j := k) (by omega)
        refine s_do rfl rfl rfl (d_indexE rfl (z := 1) (j := k) (r := k) (by kernel_rfl) rfl rfl rfl (by omega) hxv (by omega)) ?_
        have o25 := O
        refine s_put rfl rfl (p_storeI rfl rfl rfl o25 (by omega)) ?_
        rintro w25 ⟨O25, x25⟩
        have m25 := x25.size
        refine s_end ?_
        refine s_region ?_
        refine s_do rfl rfl rfl (d_move rfl rfl) ?_
        refine s_do rfl rfl rfl (d_add64 rfl rfl rfl (r := (k : Int) + 1) (by omega) (by omega)) ?_
        refine s_do rfl rfl rfl (d_assign rfl rfl) ?_
        refine s_end ?_
        intro _ hF
        refine ⟨(k + 1), (hF.cons (hF.cons (hF.cons (hF.cons (hF.cons (hF.cons (hF.cons (hF.cons (hF.cons (hF.cons (hF.cons (hF.cons (hF.cons (hF.cons (hF.cons (hF.cons (hF.cons (hF.cons (hF.cons (hF.cons (hF.cons (hF.cons (hF.cons (hF.cons (hF.cons (hF.cons (hF.cons (hF.cons (hF.cons hF.nil 88 _ _ rfl rfl) 87 _ _ rfl rfl) 86 _ _ rfl rfl) 85 _ _ rfl rfl) 84 _ _ rfl rfl) 83 _ _ rfl rfl) 82 _ _ rfl rfl) 81 _ _ rfl rfl) 80 _ _ rfl rfl) 79 _ _ rfl rfl) 78 _ _ rfl rfl) 77 _ _ rfl rfl) 76 _ _ rfl rfl) 75 _ _ rfl rfl) 72 _ _ rfl rfl) 71 _ _ rfl rfl) 70 _ _ rfl rfl) 69 _ _ rfl rfl) 19 _ _ rfl rfl) 18 _ _ rfl rfl) 17 _ _ rfl rfl) 16 _ _ rfl rfl) 8 _ _ rfl rfl) 7 _ _ rfl rfl) 6 _ _ rfl rfl) 3 _ _ rfl rfl) 2 _ _ rfl rfl) 1 _ _ rfl rfl) 20 _ _ rfl (by go_num)), ⟨(x24.trans (x25.row o25 (R8.ne (2 * i + 1) (by omega)))), ?_⟩, ?_⟩
        · exact ⟨by omega, hfr3.put R8 (by omega) x25 ⟨_, O25⟩⟩
        · omega
      · -- no: (k : Int) < ((N (2 * i + 1)) : Int)
        refine k_exit ?_
        refine k_here ?_
        refine k_seq ?_
        refine s_region ?_
        refine s_do rfl rfl rfl (d_assign rfl rfl) ?_
        refine s_end ?_
        refine k_block ?_
        refine c_loop (σ := Nat × (Option Addr × Nat × Nat) × (Option Addr × Nat × Nat)) (fun s => [(21, .int .i64 (s.1 : Int)), (17, .slice s.2.1.1 s.2.1.2.1 s.2.1.2.2), (18, .slice s.2.2.1 s.2.2.2.1 s.2.2.2.2), (1, .int .i64 key), (2, .int .i64 val), (3, .pointer (some ⟨b1, 0, none⟩)), (6, .bool false), (7, .pointer (some ⟨b2, 0, none⟩)), (8, .slice (some ⟨b20, 0, none⟩) 4 c20), (16, .int .i64 (i : Int)), (19, .int .i64 (j : Int)), (20, .int .i64 (k : Int)), (69, .int .i64 (i : Int)), (70, .slice (some ⟨b20, 0, none⟩) 4 c20), (71, .int .i64 4), (72, .bool (decide ((i : Int) < 4))), (75, .slice (some ⟨b20, 0, none⟩) 4 c20), (76, .int .i64 (i : Int)), (77, eptr (some ⟨b20, 0, none⟩) (i * 3)), (78, eptr (some ⟨b20, 0, none⟩) (i * 3 + 1)), (79, .slice (A (2 * i)) (N (2 * i)) (C (2 * i))), (80, .slice (some ⟨b20, 0, none⟩) 4 c20), (81, .int .i64 (i : Int)), (82, eptr (some ⟨b20, 0, none⟩) (i * 3)), (83, eptr (some ⟨b20, 0, none⟩) (i * 3 + 2)), (84, .slice (A (2 * i + 1)) (N (2 * i + 1)) (C (2 * i + 1))), (85, .int .i64 (j : Int)), (86, .slice (A (2 * i)) (N (2 * i)) (C (2 * i))), (87, .int .i64 ((N (2 * i)) : Int)), (88, .bool (decide ((j : Int) < ((N (2 * i)) : Int)))), (94, .int .i64 (k : Int)), (95, .slice (A (2 * i + 1)) (N (2 * i + 1)) (C (2 * i + 1))), (96, .int .i64 ((N (2 * i + 1)) : Int)), (97, .bool (decide ((k : Int) < ((N (2 * i + 1)) : Int))))])
          (fun s wr => Ext (Fq w7.heap.size b20) wr24 wr ∧ (s.1 ≤ 8 ∧ s.2.1.2.1 ≤ 8 + s.1 ∧ s.2.2.2.1 ≤ 8 + s.1 ∧ OwnA w7.heap.size (.slice s.2.1.1 s.2.1.2.1 s.2.1.2.2) wr ∧ OwnA w7.heap.size (.slice s.2.2.1 s.2.2.2.1 s.2.2.2.2) wr ∧ Value.ownBlock (.slice s.2.1.1 s.2.1.2.1 s.2.1.2.2) ≠ some b20 ∧ Value.ownBlock (.slice s.2.2.1 s.2.2.2.1 s.2.2.2.2) ≠ some b20 ∧ Apart (.slice s.2.1.1 s.2.1.2.1 s.2.1.2.2) (.slice s.2.2.1 s.2.2.2.1 s.2.2.2.2) ∧ From w7.heap.size (2 * i + 2) (fun q => .slice (A q) (N q) (C q)) wr ∧ (∀ q, 2 * i + 2 ≤ q → q < 8 → Apart (.slice s.2.1.1 s.2.1.2.1 s.2.1.2.2) ((fun q => .slice (A q) (N q) (C q)) q)) ∧ (∀ q, 2 * i + 2 ≤ q → q < 8 → Apart (.slice s.2.2.1 s.2.2.2.1 s.2.2.2.2) ((fun q => .slice (A q) (N q) (C q)) q)))) (fun s => 8 - s.1) (0, (A (2 * i), N (2 * i), C (2 * i)), (A (2 * i + 1), N (2 * i + 1), C (2 * i + 1)))
          (fun _ hF => (hF.cons (hF.cons (hF.cons (hF.cons (hF.cons (hF.cons (hF.cons (hF.cons (hF.cons (hF.cons (hF.cons (hF.cons (hF.cons (hF.cons (hF.cons (hF.cons (hF.cons (hF.cons (hF.cons (hF.cons (hF.cons (hF.cons (hF.cons (hF.cons (hF.cons (hF.cons (hF.cons (hF.cons (hF.cons (hF.cons (hF.cons (hF.cons (hF.cons (hF.cons hF.nil 97 _ _ rfl rfl) 96 _ _ rfl rfl) 95 _ _ rfl rfl) 94 _ _ rfl rfl) 88 _ _ rfl rfl) 87 _ _ rfl rfl) 86 _ _ rfl rfl) 85 _ _ rfl rfl) 84 _ _ rfl rfl) 83 _ _ rfl rfl) 82 _ _ rfl rfl) 81 _ _ rfl rfl) 80 _ _ rfl rfl) 79 _ _ rfl rfl) 78 _ _ rfl rfl) 77 _ _ rfl rfl) 76 _ _ rfl rfl) 75 _ _ rfl rfl) 72 _ _ rfl rfl) 71 _ _ rfl rfl) 70 _ _ rfl rfl) 69 _ _ rfl rfl) 20 _ _ rfl rfl) 19 _ _ rfl rfl) 16 _ _ rfl rfl) 8 _ _ rfl rfl) 7 _ _ rfl rfl) 6 _ _ rfl rfl) 3 _ _ rfl rfl) 2 _ _ rfl rfl) 1 _ _ rfl rfl) 18 _ _ rfl rfl) 17 _ _ rfl rfl) 21 _ _ rfl rfl)) ⟨Ext.refl _ _, by omega, hN8 (2 * i) (by omega), hN8 (2 * i + 1) (by omega), hfr3 (2 * i) (by omega) (by omega), hfr3 (2 * i + 1) (by omega) (by omega), R8.ne (2 * i) (by omega), R8.ne (2 * i + 1) (by omega), R8.apart (2 * i) (2 * i + 1) (by omega) (by omega) (by omega), hfr3.le (by omega), fun q a b => R8.apart (2 * i) q (by omega) b (by omega), fun q a b => R8.apart (2 * i + 1) q (by omega) b (by omega)⟩ ?_
        rintro ⟨m, ⟨g1, n1, c1⟩, ⟨g2, n2, c2⟩⟩ wr26 ⟨x26, hI⟩
        have m26 := x26.size
        dsimp only at hI x26 ⊢
        obtain ⟨hm8, hn1, hn2, ⟨xs, O⟩, ⟨ys, Q⟩, Na, Nb, Apq, hfr4, hap1, hap2⟩ := hI
        have hxl := O.len
        have hyl := Q.len
        refine k_seq ?_
        refine k_seq ?_
        refine s_region ?_
        refine s_do rfl rfl rfl (d_move rfl rfl) ?_
        refine s_do rfl rfl rfl (d_lss rfl rfl rfl) ?_
        refine s_end ?_
        refine k_dec rfl (fun h4 => ?_) (fun h4 => ?_)
        · -- yes: (m : Int) < 8
          refine k_skip ?_
          refine k_seq ?_
          refine k_block ?_
          refine k_seq ?_
          refine s_region ?_
          refine s_do rfl rfl rfl (d_move rfl rfl) ?_
          refine s_go rfl rfl rfl (g_oneI rfl rfl) ?_
          rintro _ w27 ⟨b27, rfl, s27, R27, x27⟩
          have m27 := x27.size
          have o28 := (O.ext0 x27)
          refine s_go rfl rfl rfl (g_appendI rfl rfl rfl (by simp) o28 R27 (by omega) (by first | omega | (simp <;> omega))) ?_
          rintro _ w28 ⟨g28, c28, rfl, O28, x28, y28⟩
          have m28 := x28.size
          refine s_do rfl rfl rfl (d_assign rfl rfl) ?_
          refine s_end ?_
          refine s_region ?_
          refine s_do rfl rfl rfl (d_move rfl rfl) ?_
          refine s_go rfl rfl rfl (g_oneI rfl rfl) ?_
          rintro _ w29 ⟨b29, rfl, s29, R29, x29⟩
          have m29 := x29.size
          have o30 := (((Q.ext0 x27).extO x28 Apq).ext0 x29)
          refine s_go rfl rfl rfl (g_appendI rfl rfl rfl (by simp) o30 R29 (by omega) (by first | omega | (simp <;> omega))) ?_
          rintro _ w30 ⟨g30, c30, rfl, O30, x30, y30⟩
          have m30 := x30.size
          refine s_do rfl rfl rfl (d_assign rfl rfl) ?_
          refine s_end ?_
          refine s_region ?_
          refine s_do rfl rfl rfl (d_move rfl rfl) ?_
          refine s_do rfl rfl rfl (d_add64 rfl rfl rfl (r := (m : Int) + 1) (by omega) (by omega)) ?_
          refine s_do rfl rfl rfl (d_assign rfl rfl) ?_
          refine s_end ?_
          intro _ hF
          refine ⟨(m + 1, (g28, (xs ++ ([-7])).length, c28), (g30, (ys ++ ([-7])).length, c30)), (hF.cons (hF.cons (hF.cons (hF.cons (hF.cons (hF.cons (hF.cons (hF.cons (hF.cons (hF.cons (hF.cons (hF.cons (hF.cons (hF.cons (hF.cons (hF.cons (hF.cons (hF.cons (hF.cons (hF.cons (hF.cons (hF.cons (hF.cons (hF.cons (hF.cons (hF.cons (hF.cons (hF.cons (hF.cons (hF.cons (hF.cons (hF.cons (hF.cons (hF.cons hF.nil 97 _ _ rfl rfl) 96 _ _ rfl rfl) 95 _ _ rfl rfl) 94 _ _ rfl rfl) 88 _ _ rfl rfl) 87 _ _ rfl rfl) 86 _ _ rfl rfl) 85 _ _ rfl rfl) 84 _ _ rfl rfl) 83 _ _ rfl rfl) 82 _ _ rfl rfl) 81 _ _ rfl rfl) 80 _ _ rfl rfl) 79 _ _ rfl rfl) 78 _ _ rfl rfl) 77 _ _ rfl rfl) 76 _ _ rfl rfl) 75 _ _ rfl rfl) 72 _ _ rfl rfl) 71 _ _ rfl rfl) 70 _ _ rfl rfl) 69 _ _ rfl rfl) 20 _ _ rfl rfl) 19 _ _ rfl rfl) 16 _ _ rfl rfl) 8 _ _ rfl rfl) 7 _ _ rfl rfl) 6 _ _ rfl rfl) 3 _ _ rfl rfl) 2 _ _ rfl rfl) 1 _ _ rfl rfl) 18 _ _ rfl rfl) 17 _ _ rfl rfl) 21 _ _ rfl (by dsimp only; go_num)), ⟨((((x26.trans (x27.no)).trans (x28.row o28 Na)).trans (x29.no)).trans (x30.row o30 Nb)), ?_⟩, ?_⟩
          · have f1 := hfr4.ext0 x27
            have f2 := f1.grow x28 hap1
            have d1 := aparts_grown y28 hap1 f1
            have f3 := f2.ext0 x29
            have f4 := f3.grow x30 hap2
            have d2 := aparts_grown y30 hap2 f3
            have r1 : (xs ++ [(-7 : Int)]).length = xs.length + 1 := by simp
            have r2 : (ys ++ [(-7 : Int)]).length = ys.length + 1 := by simp
            exact ⟨by omega, by dsimp only; omega, by dsimp only; omega, ⟨_, ((O28.ext0 x29).extO x30 ((apart_grown y28 Apq (Q.ext0 x27))).symm)⟩, ⟨_, O30⟩, (ne_grown y28 Na (by omega)), (ne_grown y30 Nb (by omega)), ((apart_grown y30 ((apart_grown y28 Apq (Q.ext0 x27))).symm (O28.ext0 x29))).symm, f4, d1, d2⟩
          · dsimp only; omega
        · -- no: (m : Int) < 8
          refine k_exit ?_
          refine k_here ?_
          refine s_region ?_
          refine s_do rfl rfl rfl (d_move rfl rfl) ?_
          refine s_do rfl rfl rfl (d_add64 rfl rfl rfl (r := (i : Int) + 1) (by omega) (by omega)) ?_
          refine s_do rfl rfl rfl (d_assign rfl rfl) ?_
          refine s_end ?_
          intro _ hF
          refine ⟨(i + 1), (hF.cons (hF.cons (hF.cons (hF.cons (hF.cons (hF.cons (hF.cons hF.nil 8 _ _ rfl rfl) 7 _ _ rfl rfl) 6 _ _ rfl rfl) 3 _ _ rfl rfl) 2 _ _ rfl rfl) 1 _ _ rfl rfl) 16 _ _ rfl (by go_num)), ⟨(((x21.trans x22).trans x24).trans x26), ?_⟩, ?_⟩
          · exact ⟨by omega, hfr4.le (by omega)⟩
          · omega
  · -- no: (i : Int) < 4
    refine k_exit ?_
    refine k_here ?_
    refine k_seq ?_
    refine s_region ?_
    refine s_do rfl rfl rfl (d_loadAgg rfl rfl (vs := [.bool lf, .slice ka ks.length kc, .slice va vs.length vc]) (by kernel_rfl) (here (((((((((((((((((((((B1.ext0 x2).ext x3 (show ¬ (b1 = b2) by omega)).ext0 x4).ext x5 (show ¬ (b1 = b2) by omega)).ext0 x6).ext x7 (show ¬ (b1 = b2) by omega)).ext0 x8).ext0 x9).ext x10 (show ¬ (b1 = b9) by omega)).ext0 x11).ext0 x12).ext x13 (show ¬ (b1 = b12) by omega)).ext0 x14).ext0 x15).ext0 x16).ext x17 (show ¬ (b1 = b15) by omega)).ext x18 (show ¬ (b1 = b16) by omega)).ext0 x19).ext0 x20).ext x21 (fun q => by have := q.1; omega)).part 0 3 _ rfl))) ?_
    refine s_do rfl rfl rfl (d_loadAgg rfl rfl (vs := [.bool lf, .slice g4 ks.length c4, .slice g6 vs.length c6]) (by kernel_rfl) (here (((((((((((((((B7.ext0 x8).ext0 x9).ext x10 (show ¬ (b2 = b9) by omega)).ext0 x11).ext0 x12).ext x13 (show ¬ (b2 = b12) by omega)).ext0 x14).ext0 x15).ext0 x16).ext x17 (show ¬ (b2 = b15) by omega)).ext x18 (show ¬ (b2 = b16) by omega)).ext0 x19).ext0 x20).ext x21 (fun q => by have := q.1; omega)).part 0 3 _ rfl))) ?_
    refine s_call rfl rfl rfl rfl rfl (fun w => Try.call20 _ w) (same_c lf lf _ _ _ _ ks vs ks vs _ (hk.ext0 ((((((((((((((((((((((Ext.refl No w).trans x1).trans x2).trans_new x3 (fun i hi => by subst hi; omega)).trans x4).trans_new x5 (fun i hi => by subst hi; omega)).trans x6).trans_new x7 (fun i hi => by subst hi; omega)).trans x8).trans x9).trans_new x10 (fun i hi => by subst hi; omega)).trans x11).trans x12).trans_new x13 (fun i hi => by subst hi; omega)).trans x14).trans x15).trans x16).trans_new x17 (fun i hi => by subst hi; omega)).trans_new x18 (fun i hi => by subst hi; omega)).trans x19).trans x20).trans_new x21 (fun i hi => by have := hi.1; omega))) (hv.ext0 ((((((((((((((((((((((Ext.refl No w).trans x1).trans x2).trans_new x3 (fun i hi => by subst hi; omega)).trans x4).trans_new x5 (fun i hi => by subst hi; omega)).trans x6).trans_new x7 (fun i hi => by subst hi; omega)).trans x8).trans x9).trans_new x10 (fun i hi => by subst hi; omega)).trans x11).trans x12).trans_new x13 (fun i hi => by subst hi; omega)).trans x14).trans x15).trans x16).trans_new x17 (fun i hi => by subst hi; omega)).trans_new x18 (fun i hi => by subst hi; omega)).trans x19).trans x20).trans_new x21 (fun i hi => by have := hi.1; omega))) (((((((((((((((((O4.extb x5 (own_ne O4 (by omega))).ext0 x6).extb x7 (own_ne O4 (by omega))).ext0 x8).ext0 x9).extb x10 (own_ne O4 (by omega))).ext0 x11).ext0 x12).extb x13 (own_ne O4 (by omega))).ext0 x14).ext0 x15).ext0 x16).extb x17 (own_ne O4 (by omega))).extb x18 (own_ne O4 (by omega))).ext0 x19).ext0 x20).extq O4 x21 (by omega)).rd (((((((((((((((O6.extb x7 (own_ne O6 (by omega))).ext0 x8).ext0 x9).extb x10 (own_ne O6 (by omega))).ext0 x11).ext0 x12).extb x13 (own_ne O6 (by omega))).ext0 x14).ext0 x15).ext0 x16).extb x17 (own_ne O6 (by omega))).extb x18 (own_ne O6 (by omega))).ext0 x19).ext0 x20).extq O6 x21 (by omega)).rd) ?_
    rintro _ w31 ⟨rfl, x31⟩
    have m31 := x31.size
    refine s_do rfl rfl rfl (d_assign rfl rfl) ?_
    refine s_end ?_
    refine k_seq ?_
    refine s_region ?_
    refine s_do rfl rfl rfl (d_loadAgg rfl rfl (vs := [.bool lf, .slice ka ks.length kc, .slice va vs.length vc]) (by kernel_rfl) (here ((((((((((((((((((((((B1.ext0 x2).ext x3 (show ¬ (b1 = b2) by omega)).ext0 x4).ext x5 (show ¬ (b1 = b2) by omega)).ext0 x6).ext x7 (show ¬ (b1 = b2) by omega)).ext0 x8).ext0 x9).ext x10 (show ¬ (b1 = b9) by omega)).ext0 x11).ext0 x12).ext x13 (show ¬ (b1 = b12) by omega)).ext0 x14).ext0 x15).ext0 x16).ext x17 (show ¬ (b1 = b15) by omega)).ext x18 (show ¬ (b1 = b16) by omega)).ext0 x19).ext0 x20).ext x21 (fun q => by have := q.1; omega)).ext0 x31).part 0 3 _ rfl))) ?_
    refine s_do rfl rfl rfl (d_move rfl rfl) ?_
    refine s_do rfl rfl rfl (d_move rfl rfl) ?_
    have c28_3 := put_c lf (.slice ka ks.length kc) (.slice va vs.length vc) ks vs key val w31 (hk.ext0 (((((((((((((((((((((((Ext.refl No w).trans x1).trans x2).trans_new x3 (fun i hi => by subst hi; omega)).trans x4).trans_new x5 (fun i hi => by subst hi; omega)).trans x6).trans_new x7 (fun i hi => by subst hi; omega)).trans x8).trans x9).trans_new x10 (fun i hi => by subst hi; omega)).trans x11).trans x12).trans_new x13 (fun i hi => by subst hi; omega)).trans x14).trans x15).trans x16).trans_new x17 (fun i hi => by subst hi; omega)).trans_new x18 (fun i hi => by subst hi; omega)).trans x19).trans x20).trans_new x21 (fun i hi => by have := hi.1; omega)).trans x31)) (hv.ext0 (((((((((((((((((((((((Ext.refl No w).trans x1).trans x2).trans_new x3 (fun i hi => by subst hi; omega)).trans x4).trans_new x5 (fun i hi => by subst hi; omega)).trans x6).trans_new x7 (fun i hi => by subst hi; omega)).trans x8).trans x9).trans_new x10 (fun i hi => by subst hi; omega)).trans x11).trans x12).trans_new x13 (fun i hi => by subst hi; omega)).trans x14).trans x15).trans x16).trans_new x17 (fun i hi => by subst hi; omega)).trans_new x18 (fun i hi => by subst hi; omega)).trans x19).trans x20).trans_new x21 (fun i hi => by have := hi.1; omega)).trans x31))
    refine s_call rfl rfl rfl rfl rfl (fun w => Try.call18 _ w) (c28_3) ?_
    rintro _ w32 ⟨_, rfl, ⟨ga32, ca32, gb32, cb32, rfl, Oa32, Ob32, Ap32⟩, x32⟩
    have m32 := x32.size
    clear c28_3
    refine s_do rfl rfl rfl (d_move rfl rfl) ?_
    refine s_do rfl rfl rfl (d_extract rfl rfl rfl) ?_
    refine s_do rfl rfl rfl (d_extract rfl rfl rfl) ?_
    refine s_go rfl rfl rfl (g_alloc (P := Try.prog) rfl (zs := [.bool false, .slice none 0 0, .slice none 0 0]) (by kernel_rfl)) ?_
    rintro _ w33 ⟨b33, rfl, s33, t33, B33, x33⟩
    refine s_put rfl rfl (p_store rfl rfl rfl (vs := [.bool ((putN lf ks vs key val).1), .slice ga32 (((putN lf ks vs key val).2.1).length) ca32, .slice gb32 (((putN lf ks vs key val).2.2.1).length) cb32]) rfl (by simp [Value.oneCell']) (by kernel_rfl) (B33) (by simp) (out := [.bool ((putN lf ks vs key val).1), .slice ga32 (((putN lf ks vs key val).2.1).length) ca32, .slice gb32 (((putN lf ks vs key val).2.2.1).length) cb32]) rfl) ?_
    rintro w34 ⟨B34, x34, t34⟩
    refine s_do rfl rfl rfl (d_assign rfl rfl) ?_
    refine s_end ?_
    refine k_seq ?_
    refine s_region ?_
    refine s_do rfl rfl rfl (d_loadAgg rfl rfl (vs := [.bool lf, .slice g4 ks.length c4, .slice g6 vs.length c6]) (by kernel_rfl) (here (((((((((((((((((((B7.ext0 x8).ext0 x9).ext x10 (show ¬ (b2 = b9) by omega)).ext0 x11).ext0 x12).ext x13 (show ¬ (b2 = b12) by omega)).ext0 x14).ext0 x15).ext0 x16).ext x17 (show ¬ (b2 = b15) by omega)).ext x18 (show ¬ (b2 = b16) by omega)).ext0 x19).ext0 x20).ext x21 (fun q => by have := q.1; omega)).ext0 x31).ext0 x32).ext0 x33).ext x34 (show ¬ (b2 = b33) by omega)).part 0 3 _ rfl))) ?_
    refine s_do rfl rfl rfl (d_move rfl rfl) ?_
    refine s_do rfl rfl rfl (d_move rfl rfl) ?_
    have c29_3 := rput_c lf (.slice g4 ks.length c4) (.slice g6 vs.length c6) ks vs key val w34 (((((((((((((((((((((O4.extb x5 (own_ne O4 (by omega))).ext0 x6).extb x7 (own_ne O4 (by omega))).ext0 x8).ext0 x9).extb x10 (own_ne O4 (by omega))).ext0 x11).ext0 x12).extb x13 (own_ne O4 (by omega))).ext0 x14).ext0 x15).ext0 x16).extb x17 (own_ne O4 (by omega))).extb x18 (own_ne O4 (by omega))).ext0 x19).ext0 x20).extq O4 x21 (by omega)).ext0 x31).ext0 x32).ext0 x33).extb x34 (own_ne O4 (by omega))).rd (((((((((((((((((((O6.extb x7 (own_ne O6 (by omega))).ext0 x8).ext0 x9).extb x10 (own_ne O6 (by omega))).ext0 x11).ext0 x12).extb x13 (own_ne O6 (by omega))).ext0 x14).ext0 x15).ext0 x16).extb x17 (own_ne O6 (by omega))).extb x18 (own_ne O6 (by omega))).ext0 x19).ext0 x20).extq O6 x21 (by omega)).ext0 x31).ext0 x32).ext0 x33).extb x34 (own_ne O6 (by omega))).rd
    refine s_call rfl rfl rfl rfl rfl (fun w => Try.call19 _ w) (c29_3) ?_
    rintro _ w35 ⟨_, rfl, ⟨ga35, ca35, gb35, cb35, rfl, Oa35, Ob35, Ap35⟩, x35⟩
    have m35 := x35.size
    clear c29_3
    refine s_do rfl rfl rfl (d_move rfl rfl) ?_
    refine s_do rfl rfl rfl (d_extract rfl rfl rfl) ?_
    refine s_do rfl rfl rfl (d_extract rfl rfl rfl) ?_
    refine s_go rfl rfl rfl (g_alloc (P := Try.prog) rfl (zs := [.bool false, .slice none 0 0, .slice none 0 0]) (by kernel_rfl)) ?_
    rintro _ w36 ⟨b36, rfl, s36, t36, B36, x36⟩
    refine s_put rfl rfl (p_store rfl rfl rfl (vs := [.bool ((putN lf ks vs key val).1), .slice ga35 (((putN lf ks vs key val).2.1).length) ca35, .slice gb35 (((putN lf ks vs key val).2.2.1).length) cb35]) rfl (by simp [Value.oneCell']) (by kernel_rfl) (B36) (by simp) (out := [.bool ((putN lf ks vs key val).1), .slice ga35 (((putN lf ks vs key val).2.1).length) ca35, .slice gb35 (((putN lf ks vs key val).2.2.1).length) cb35]) rfl) ?_
    rintro w37 ⟨B37, x37, t37⟩
    refine s_do rfl rfl rfl (d_assign rfl rfl) ?_
    refine s_end ?_
    refine k_seq ?_
    refine s_region ?_
    refine s_do rfl rfl rfl (d_loadAgg rfl rfl (vs := [.bool ((putN lf ks vs key val).1), .slice ga32 (((putN lf ks vs key val).2.1).length) ca32, .slice gb32 (((putN lf ks vs key val).2.2.1).length) cb32]) (by kernel_rfl) (here ((((B34.ext0 x35).ext0 x36).ext x37 (show ¬ (b33 = b36) by omega)).part 0 3 _ rfl))) ?_
    refine s_do rfl rfl rfl (d_loadAgg rfl rfl (vs := [.bool ((putN lf ks vs key val).1), .slice ga35 (((putN lf ks vs key val).2.1).length) ca35, .slice gb35 (((putN lf ks vs key val).2.2.1).length) cb35]) (by kernel_rfl) (here (B37.part 0 3 _ rfl))) ?_
    refine s_call rfl rfl rfl rfl rfl (fun w => Try.call20 _ w) (same_c ((putN lf ks vs key val).1) ((putN lf ks vs key val).1) _ _ _ _ ((putN lf ks vs key val).2.1) ((putN lf ks vs key val).2.2.1) ((putN lf ks vs key val).2.1) ((putN lf ks vs key val).2.2.1) _ (((((Oa32.ext0 x33).extb x34 (own_ne Oa32 (by omega))).ext0 x35).ext0 x36).extb x37 (own_ne Oa32 (by omega))).rd (((((Ob32.ext0 x33).extb x34 (own_ne Ob32 (by omega))).ext0 x35).ext0 x36).extb x37 (own_ne Ob32 (by omega))).rd ((Oa35.ext0 x36).extb x37 (own_ne Oa35 (by omega))).rd ((Ob35.ext0 x36).extb x37 (own_ne Ob35 (by omega))).rd) ?_
    rintro _ w38 ⟨rfl, x38⟩
    have m38 := x38.size
    refine s_do rfl rfl rfl (d_assign rfl rfl) ?_
    refine s_end ?_
    refine k_seq ?_
    refine s_region ?_
    refine s_do rfl rfl rfl (d_move rfl rfl) ?_
    refine s_do rfl rfl rfl (d_move rfl rfl) ?_
    refine s_part 134 rfl (fun h5 => ?_) (fun h5 => ?_)
    · -- yes: lf = lf ∧ ks = ks ∧ vs = vs
      refine s_do rfl rfl rfl (d_move rfl rfl) ?_
      refine s_do rfl rfl rfl (d_pick_t rfl rfl rfl) ?_
      refine s_do rfl rfl rfl (d_move rfl rfl) ?_
      refine s_part 137 rfl (fun h6 => ?_) (fun h6 => ?_)
      · -- yes: ((putN lf ks vs key val).1) = ((putN lf ks vs key val).1) ∧ ((putN lf ks vs key val).2.1) = ((putN lf ks vs key val).2.1) ∧ ((putN lf ks vs key val).2.2.1) = ((putN lf ks vs key val).2.2.1)
        refine s_do rfl rfl rfl (d_move rfl rfl) ?_
        refine s_do rfl rfl rfl (d_move rfl rfl) ?_
        refine s_do rfl rfl rfl (d_eql rfl rfl rfl) ?_
        refine s_do rfl rfl rfl (d_pick_t rfl rfl rfl) ?_
        refine s_do rfl rfl rfl (d_move rfl rfl) ?_
        refine s_part 142 rfl (fun h7 => ?_) (fun h7 => ?_)
        · -- yes: ((putN lf ks vs key val).2.2.2 : Int) = ((putN lf ks vs key val).2.2.2)
          refine s_call rfl rfl rfl rfl rfl (fun w => Try.call13 _ w) (lives_c _) ?_
          rintro _ w39 ⟨rfl, x39⟩
          have m39 := x39.size
          refine s_do rfl rfl rfl (d_pick_t rfl rfl rfl) ?_
          refine s_do rfl rfl rfl (d_assign rfl rfl) ?_
          refine s_end ?_
          refine k_ret ?_
          refine doneL rfl [.bool true] ⟨rfl, trivial⟩ (v := .bool true) rfl ?_
          have X := (((((((((((((((((((((((((((((((Ext.refl No w).trans x1).trans x2).trans_new x3 (fun i hi => by subst hi; omega)).trans x4).trans_new x5 (fun i hi => by subst hi; omega)).trans x6).trans_new x7 (fun i hi => by subst hi; omega)).trans x8).trans x9).trans_new x10 (fun i hi => by subst hi; omega)).trans x11).trans x12).trans_new x13 (fun i hi => by subst hi; omega)).trans x14).trans x15).trans x16).trans_new x17 (fun i hi => by subst hi; omega)).trans_new x18 (fun i hi => by subst hi; omega)).trans x19).trans x20).trans_new x21 (fun i hi => by have := hi.1; omega)).trans x31).trans x32).trans x33).trans_new x34 (fun i hi => by subst hi; omega)).trans x35).trans x36).trans_new x37 (fun i hi => by subst hi; omega)).trans x38).trans x39)
          exact ⟨by simp, X⟩
        · exact absurd rfl h7
      · exact absurd ⟨rfl, rfl, rfl⟩ h6
    · exact absurd ⟨rfl, rfl, rfl⟩ h5
end Go.Proofs.Yteehoppklgcggaa
