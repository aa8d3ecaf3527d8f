/-
  Walks of package node and of its reference: what makes nodes. No condition.
-/
import Derived.Test.YteehoppklgcggaaNodeA
import Derived.Test.YteehoppklgcggaaNodeL
set_option maxRecDepth 100000
namespace Go.Proofs.Yteehoppklgcggaa
open Go.RowKit
theorem part_c (lf : Bool) (kv vv : Value) (ks vs : List Int) (p q : Nat) (pi qi : Int) (w : World) (hpi : pi = p) (hqi : qi = q) (hk : RdI kv ks w) (hv : RdI vv vs w) (hpq : p ≤ q) (hqk : q ≤ ks.length) (hqv : q ≤ vs.length) (hbk : ks.length ≤ 1000000) (hbv : vs.length ≤ 1000000) :
    Calls Try.prog 31 #[.agg #[.bool lf, kv, vv], .int .i64 pi, .int .i64 qi] w (Ret fun v w' => ResN w.heap.size lf ((ks.drop p).take (q - p)) ((vs.drop p).take (q - p)) v w' ∧ Ext No w w') := by
  subst hpi hqi
  have hk0 := hk; have hv0 := hv
  obtain ⟨ka, kc, rfl, hkc, hkm, hc⟩ := hk0.opened
  obtain ⟨va, vc, rfl, hvc, hvm, hd⟩ := hv0.opened
  refine enter Try.func31 rfl 22 Try.ntmps31 rfl ?_
  refine k_seq ?_
  refine s_region ?_
  refine s_go rfl rfl rfl (g_box rfl rfl rfl) ?_
  rintro _ w1 ⟨b1, rfl, s1, t1, B1, x1⟩
  refine s_go rfl rfl rfl (g_alloc (P := Try.prog) rfl (zs := [.bool false, .slice none 0 0, .slice none 0 0]) (by kernel_rfl)) ?_
  rintro _ w2 ⟨b2, rfl, s2, t2, B2, x2⟩
  refine s_end ?_
  refine k_seq ?_
  refine a_region (Ext (· = b2) w2) 16 rfl (by kernel_rfl) (fun w3 x3 z3 => ?_)
  refine a_do 0 rfl (by kernel_rfl) (by kernel_rfl) (by kernel_rfl) rfl rfl rfl (d_field rfl (k := 0) (r := 0) (by kernel_rfl) rfl rfl) ((Ext.refl (· = b2) w2).trans x3.no) ?_
  refine a_do 1 rfl (by kernel_rfl) (by kernel_rfl) (by kernel_rfl) rfl rfl rfl (d_load rfl rfl (by kernel_rfl) (fun _ hx => ((B1.ext0 x2).ext hx (show ¬ (b1 = b2) by omega)).cel 0 rfl)) ((Ext.refl (· = b2) w2).trans x3.no) ?_
  refine a_do 2 rfl (by kernel_rfl) (by kernel_rfl) (by kernel_rfl) rfl rfl rfl (d_field rfl (k := 1) (r := 1) (by kernel_rfl) rfl rfl) ((Ext.refl (· = b2) w2).trans x3.no) ?_
  refine a_do 3 rfl (by kernel_rfl) (by kernel_rfl) (by kernel_rfl) rfl rfl rfl (d_load rfl rfl (by kernel_rfl) (fun _ hx => ((B1.ext0 x2).ext hx (show ¬ (b1 = b2) by omega)).cel 1 rfl)) ((Ext.refl (· = b2) w2).trans x3.no) ?_
  refine a_do 4 rfl (by kernel_rfl) (by kernel_rfl) (by kernel_rfl) rfl rfl rfl (d_move rfl rfl) ((Ext.refl (· = b2) w2).trans x3.no) ?_
  refine a_do 5 rfl (by kernel_rfl) (by kernel_rfl) (by kernel_rfl) rfl rfl rfl (d_move rfl rfl) ((Ext.refl (· = b2) w2).trans x3.no) ?_
  refine a_do 6 rfl (by kernel_rfl) (by kernel_rfl) (by kernel_rfl) rfl rfl rfl (d_slice rfl (z := 1) (p := p) (q := q) (by kernel_rfl) rfl (.inr ⟨_, _, _, rfl, rfl, rfl⟩) (.inr ⟨_, _, _, rfl, rfl, rfl⟩) (by omega) (by omega)) ((Ext.refl (· = b2) w2).trans x3.no) ?_
  refine a_do 8 rfl (by kernel_rfl) (by kernel_rfl) (by kernel_rfl) rfl rfl rfl (d_field rfl (k := 2) (r := 2) (by kernel_rfl) rfl rfl) ((Ext.refl (· = b2) w2).trans x3.no) ?_
  refine a_do 9 rfl (by kernel_rfl) (by kernel_rfl) (by kernel_rfl) rfl rfl rfl (d_load rfl rfl (by kernel_rfl) (fun _ hx => ((B1.ext0 x2).ext hx (show ¬ (b1 = b2) by omega)).cel 2 rfl)) ((Ext.refl (· = b2) w2).trans x3.no) ?_
  refine a_do 10 rfl (by kernel_rfl) (by kernel_rfl) (by kernel_rfl) rfl rfl rfl (d_move rfl rfl) ((Ext.refl (· = b2) w2).trans x3.no) ?_
  refine a_do 11 rfl (by kernel_rfl) (by kernel_rfl) (by kernel_rfl) rfl rfl rfl (d_move rfl rfl) ((Ext.refl (· = b2) w2).trans x3.no) ?_
  refine a_do 12 rfl (by kernel_rfl) (by kernel_rfl) (by kernel_rfl) rfl rfl rfl (d_slice rfl (z := 1) (p := p) (q := q) (by kernel_rfl) rfl (.inr ⟨_, _, _, rfl, rfl, rfl⟩) (.inr ⟨_, _, _, rfl, rfl, rfl⟩) (by omega) (by omega)) ((Ext.refl (· = b2) w2).trans x3.no) ?_
  refine a_all [7] (by kernel_rfl) (by simp) ?_
  refine all1 ?_
  refine o_go rfl rfl rfl rfl (g_appendCutI rfl rfl rfl (((hk.ext0 x1).ext0 x2).ext0 x3) (by omega) (by omega) (by omega)) ?_
  rintro _ w4 ⟨g4, c4, rfl, O4, x4⟩
  have m4 := x4.size
  refine a_and (((Ext.refl (· = b2) w2).trans x3.no).trans x4.no) ?_
  refine a_all [13] (by kernel_rfl) (by simp) ?_
  refine all1 ?_
  refine o_go rfl rfl rfl rfl (g_appendCutI rfl rfl rfl ((((hv.ext0 x1).ext0 x2).ext0 x3).ext0 x4) (by omega) (by omega) (by omega)) ?_
  rintro _ w5 ⟨g5, c5, rfl, O5, x5⟩
  have m5 := x5.size
  refine a_and ((((Ext.refl (· = b2) w2).trans x3.no).trans x4.no).trans x5.no) ?_
  refine a_do 14 rfl (by kernel_rfl) (by kernel_rfl) (by kernel_rfl) rfl rfl rfl (d_build rfl rfl (out := [.bool lf, .slice g4 (((ks.drop p).take (q - p)).length) c4, .slice g5 (((vs.drop p).take (q - p)).length) c5]) (by kernel_rfl)) ((((Ext.refl (· = b2) w2).trans x3.no).trans x4.no).trans x5.no) ?_
  refine a_all [15] (by kernel_rfl) (by simp) ?_
  refine all1 ?_
  refine o_put rfl rfl rfl (p_store rfl rfl rfl (vs := [.bool lf, .slice g4 (((ks.drop p).take (q - p)).length) c4, .slice g5 (((vs.drop p).take (q - p)).length) c5]) rfl (by simp [Value.oneCell']) (by kernel_rfl) ((((B2.ext0 x3).ext0 x4).ext0 x5)) (by simp) (out := [.bool lf, .slice g4 (((ks.drop p).take (q - p)).length) c4, .slice g5 (((vs.drop p).take (q - p)).length) c5]) rfl) ?_
  rintro w6 ⟨B6, x6, t6⟩
  refine a_and (((((Ext.refl (· = b2) w2).trans x3.no).trans x4.no).trans x5.no).trans x6) ?_
  refine a_done (by kernel_rfl) ?_
  refine k_ret ?_
  refine doneL rfl [.agg #[.bool lf, .slice g4 (((ks.drop p).take (q - p)).length) c4, .slice g5 (((vs.drop p).take (q - p)).length) c5]] ⟨⟨_, _, rfl, run_loadBlk (by kernel_rfl) (B6) (vs := [.bool lf, .slice g4 (((ks.drop p).take (q - p)).length) c4, .slice g5 (((vs.drop p).take (q - p)).length) c5]) rfl⟩, trivial⟩ (v := .agg #[.bool lf, .slice g4 (((ks.drop p).take (q - p)).length) c4, .slice g5 (((vs.drop p).take (q - p)).length) c5]) rfl ?_
  have X := (((((((Ext.refl No w).trans x1).trans x2).trans x3).trans x4).trans x5).trans_new x6 (fun i hi => by subst hi; omega))
  exact ⟨(ResN.mk (((O4.ext0 x5).extb x6 (own_ne O4 (by omega))).base (by omega)) ((O5.extb x6 (own_ne O5 (by omega))).base (by omega)) (OwnI.apart O4 O5 (by omega))), X⟩

theorem both_c (lf lf2 : Bool) (kv vv kv2 vv2 : Value) (ks vs ks2 vs2 : List Int) (w : World) (hk : RdI kv ks w) (hv : RdI vv vs w) (hk2 : RdI kv2 ks2 w) (hv2 : RdI vv2 vs2 w) (he : ks.length = vs.length) (hbk : ks.length ≤ 100000) (hb2 : ks2.length ≤ 100000) (hbv2 : vs2.length ≤ 100000) :
    Calls Try.prog 32 #[.agg #[.bool lf, kv, vv], .agg #[.bool lf2, kv2, vv2]] w (Ret fun v w' => ResN w.heap.size lf (ks ++ ks2) (vs ++ vs2) v w' ∧ Ext No w w') := by
  have hk0 := hk; have hv0 := hv
  obtain ⟨ka, kc, rfl, hkc, hkm, hc⟩ := hk0.opened
  obtain ⟨va, vc, rfl, hvc, hvm, hd⟩ := hv0.opened
  have hk02 := hk2; have hv02 := hv2
  obtain ⟨ka2, kc2, rfl, hkc2, hkm2, hc2⟩ := hk02.opened
  obtain ⟨va2, vc2, rfl, hvc2, hvm2, hd2⟩ := hv02.opened
  refine enter Try.func32 rfl 24 Try.ntmps32 rfl ?_
  refine k_seq ?_
  refine s_region ?_
  refine s_go rfl rfl rfl (g_box rfl rfl rfl) ?_
  rintro _ w1 ⟨b1, rfl, s1, t1, B1, x1⟩
  refine s_go rfl rfl rfl (g_box rfl rfl rfl) ?_
  rintro _ w2 ⟨b2, rfl, s2, t2, B2, x2⟩
  refine s_go rfl rfl rfl (g_alloc (P := Try.prog) rfl (zs := [.bool false, .slice none 0 0, .slice none 0 0]) (by kernel_rfl)) ?_
  rintro _ w3 ⟨b3, rfl, s3, t3, B3, x3⟩
  refine s_end ?_
  refine k_seq ?_
  refine s_region ?_
  refine s_do rfl rfl rfl (d_loadAgg rfl rfl (vs := [.bool lf, .slice ka ks.length kc, .slice va vs.length vc]) (by kernel_rfl) (here (((B1.ext0 x2).ext0 x3).part 0 3 _ rfl))) ?_
  refine s_do rfl rfl rfl (d_field rfl (k := 1) (r := 1) (by kernel_rfl) rfl rfl) ?_
  refine s_do rfl rfl rfl (d_load rfl rfl (by kernel_rfl) (here (((B1.ext0 x2).ext0 x3).cel 1 rfl))) ?_
  refine s_do rfl rfl rfl (d_len rfl (z := 1) (by kernel_rfl) rfl) ?_
  refine s_call rfl rfl rfl rfl rfl (fun w => Try.call31 _ w) (castN (part_c _ _ _ ks vs 0 ks.length _ _ _ (by simp) (by simp) (((hk.ext0 x1).ext0 x2).ext0 x3) (((hv.ext0 x1).ext0 x2).ext0 x3) (by first | omega | (simp <;> omega)) (by first | omega | (simp <;> omega)) (by first | omega | (simp <;> omega)) (by first | omega | (simp <;> omega)) (by first | omega | (simp <;> omega))) (ks' := ks) (vs' := vs) (by simp) (by simp [he])) ?_
  rintro _ w4 ⟨⟨ga4, ca4, gb4, cb4, rfl, Oa4, Ob4, Ap4⟩, x4⟩
  have m4 := x4.size
  refine s_go rfl rfl rfl (g_alloc (P := Try.prog) rfl (zs := [.bool false, .slice none 0 0, .slice none 0 0]) (by kernel_rfl)) ?_
  rintro _ w5 ⟨b5, rfl, s5, t5, B5, x5⟩
  refine s_put rfl rfl (p_store rfl rfl rfl (vs := [.bool lf, .slice ga4 ((ks).length) ca4, .slice gb4 ((vs).length) cb4]) rfl (by simp [Value.oneCell']) (by kernel_rfl) (B5) (by simp) (out := [.bool lf, .slice ga4 ((ks).length) ca4, .slice gb4 ((vs).length) cb4]) rfl) ?_
  rintro w6 ⟨B6, x6, t6⟩
  refine s_end ?_
  refine k_seq ?_
  refine s_region ?_
  refine s_do rfl rfl rfl (d_field rfl (k := 1) (r := 1) (by kernel_rfl) rfl rfl) ?_
  refine s_do rfl rfl rfl (d_load rfl rfl (by kernel_rfl) (here (B6.cel 1 rfl))) ?_
  refine s_do rfl rfl rfl (d_field rfl (k := 1) (r := 1) (by kernel_rfl) rfl rfl) ?_
  refine s_do rfl rfl rfl (d_load rfl rfl (by kernel_rfl) (here (((((B2.ext0 x3).ext0 x4).ext0 x5).ext x6 (show ¬ (b2 = b5) by omega)).cel 1 rfl))) ?_
  have o7 := ((Oa4.ext0 x5).extb x6 (own_ne Oa4 (by omega)))
  refine s_go rfl rfl rfl (g_appendI rfl rfl rfl rfl o7 (hk2.ext0 (((((((Ext.refl No w).trans x1).trans x2).trans x3).trans x4).trans x5).trans_new x6 (fun i hi => by subst hi; omega))) (by omega) (by first | omega | (simp <;> omega))) ?_
  rintro _ w7 ⟨g7, c7, rfl, O7, x7, y7⟩
  have m7 := x7.size
  refine s_do rfl rfl rfl (d_field rfl (k := 1) (r := 1) (by kernel_rfl) rfl rfl) ?_
  refine s_put rfl rfl (p_store rfl rfl rfl (vs := [.slice g7 ((ks ++ ks2).length) c7]) rfl (by simp [Value.oneCell']) (by kernel_rfl) ((B6.extO x7 (own_ne Oa4 (by omega)))) (by simp) (out := [.bool lf, .slice g7 ((ks ++ ks2).length) c7, .slice gb4 ((vs).length) cb4]) rfl) ?_
  rintro w8 ⟨B8, x8, t8⟩
  refine s_end ?_
  refine k_seq ?_
  refine s_region ?_
  refine s_do rfl rfl rfl (d_field rfl (k := 2) (r := 2) (by kernel_rfl) rfl rfl) ?_
  refine s_do rfl rfl rfl (d_load rfl rfl (by kernel_rfl) (here (B8.cel 2 rfl))) ?_
  refine s_do rfl rfl rfl (d_field rfl (k := 2) (r := 2) (by kernel_rfl) rfl rfl) ?_
  refine s_do rfl rfl rfl (d_load rfl rfl (by kernel_rfl) (here (((((((B2.ext0 x3).ext0 x4).ext0 x5).ext x6 (show ¬ (b2 = b5) by omega)).extO x7 (own_ne Oa4 (by omega))).ext x8 (show ¬ (b2 = b5) by omega)).cel 2 rfl))) ?_
  have o9 := ((((Ob4.ext0 x5).extb x6 (own_ne Ob4 (by omega))).extO x7 Ap4).extb x8 (own_ne Ob4 (by omega)))
  refine s_go rfl rfl rfl (g_appendI rfl rfl rfl rfl o9 (hv2.ext0 (((((((((Ext.refl No w).trans x1).trans x2).trans x3).trans x4).trans x5).trans_new x6 (fun i hi => by subst hi; omega)).transO x7 o7 (by omega)).trans_new x8 (fun i hi => by subst hi; omega))) (by omega) (by first | omega | (simp <;> omega))) ?_
  rintro _ w9 ⟨g9, c9, rfl, O9, x9, y9⟩
  have m9 := x9.size
  refine s_do rfl rfl rfl (d_field rfl (k := 2) (r := 2) (by kernel_rfl) rfl rfl) ?_
  refine s_put rfl rfl (p_store rfl rfl rfl (vs := [.slice g9 ((vs ++ vs2).length) c9]) rfl (by simp [Value.oneCell']) (by kernel_rfl) ((B8.extO x9 (own_ne Ob4 (by omega)))) (by simp) (out := [.bool lf, .slice g7 ((ks ++ ks2).length) c7, .slice g9 ((vs ++ vs2).length) c9]) rfl) ?_
  rintro w10 ⟨B10, x10, t10⟩
  refine s_end ?_
  refine k_seq ?_
  refine s_region ?_
  refine s_do rfl rfl rfl (d_loadAgg rfl rfl (vs := [.bool lf, .slice g7 ((ks ++ ks2).length) c7, .slice g9 ((vs ++ vs2).length) c9]) (by kernel_rfl) (here (B10.part 0 3 _ rfl))) ?_
  refine s_put rfl rfl (p_store rfl rfl rfl (vs := [.bool lf, .slice g7 ((ks ++ ks2).length) c7, .slice g9 ((vs ++ vs2).length) c9]) rfl (by simp [Value.oneCell']) (by kernel_rfl) ((((((((B3.ext0 x4).ext0 x5).ext x6 (show ¬ (b3 = b5) by omega)).extO x7 (own_ne Oa4 (by omega))).ext x8 (show ¬ (b3 = b5) by omega)).extO x9 (own_ne Ob4 (by omega))).ext x10 (show ¬ (b3 = b5) by omega))) (by simp) (out := [.bool lf, .slice g7 ((ks ++ ks2).length) c7, .slice g9 ((vs ++ vs2).length) c9]) rfl) ?_
  rintro w11 ⟨B11, x11, t11⟩
  refine s_end ?_
  refine k_ret ?_
  refine doneL rfl [.agg #[.bool lf, .slice g7 ((ks ++ ks2).length) c7, .slice g9 ((vs ++ vs2).length) c9]] ⟨⟨_, _, rfl, run_loadBlk (by kernel_rfl) (B11) (vs := [.bool lf, .slice g7 ((ks ++ ks2).length) c7, .slice g9 ((vs ++ vs2).length) c9]) rfl⟩, trivial⟩ (v := .agg #[.bool lf, .slice g7 ((ks ++ ks2).length) c7, .slice g9 ((vs ++ vs2).length) c9]) rfl ?_
  have X := ((((((((((((Ext.refl No w).trans x1).trans x2).trans x3).trans x4).trans x5).trans_new x6 (fun i hi => by subst hi; omega)).transO x7 o7 (by omega)).trans_new x8 (fun i hi => by subst hi; omega)).transO x9 o9 (by omega)).trans_new x10 (fun i hi => by subst hi; omega)).trans_new x11 (fun i hi => by subst hi; omega))
  exact ⟨(ResN.mk (((((O7.extb x8 (ne_grown y7 (own_ne Oa4 (by omega)) (by omega))).extO x9 ((apart_grown y7 Ap4 ((Ob4.ext0 x5).extb x6 (own_ne Ob4 (by omega))))).symm).extb x10 (ne_grown y7 (own_ne Oa4 (by omega)) (by omega))).extb x11 (ne_grown y7 (own_ne Oa4 (by omega)) (by omega))).base (by omega)) (((O9.extb x10 (ne_grown y9 (own_ne Ob4 (by omega)) (by omega))).extb x11 (ne_grown y9 (own_ne Ob4 (by omega)) (by omega))).base (by omega)) ((apart_grown y9 ((apart_grown y7 Ap4 ((Ob4.ext0 x5).extb x6 (own_ne Ob4 (by omega))))).symm (O7.extb x8 (ne_grown y7 (own_ne Oa4 (by omega)) (by omega))))).symm), X⟩

theorem from_c (lf : Bool) (kv vv : Value) (ks vs : List Int) (p q : Nat) (pi qi : Int) (w : World) (hpi : pi = p) (hqi : qi = q) (hk : RdI kv ks w) (hv : RdI vv vs w) (hpq : p ≤ q) (hqk : q ≤ ks.length) (hqv : q ≤ vs.length) (hbk : ks.length ≤ 1000000) (hbv : vs.length ≤ 1000000) :
    Calls Try.prog 33 #[.agg #[.bool lf, kv, vv], .int .i64 pi, .int .i64 qi] w (Ret fun v w' => ResN w.heap.size lf ((ks.drop p).take (q - p)) ((vs.drop p).take (q - p)) v w' ∧ Ext No w w') := by
  subst hpi hqi
  have hk0 := hk; have hv0 := hv
  obtain ⟨ka, kc, rfl, hkc, hkm, hc⟩ := hk0.opened
  obtain ⟨va, vc, rfl, hvc, hvm, hd⟩ := hv0.opened
  refine enter Try.func33 rfl 39 Try.ntmps33 rfl ?_
  refine k_seq ?_
  refine s_region ?_
  refine s_go rfl rfl rfl (g_box rfl rfl rfl) ?_
  rintro _ w1 ⟨b1, rfl, s1, t1, B1, x1⟩
  refine s_go rfl rfl rfl (g_alloc (P := Try.prog) rfl (zs := [.bool false, .slice none 0 0, .slice none 0 0]) (by kernel_rfl)) ?_
  rintro _ w2 ⟨b2, rfl, s2, t2, B2, x2⟩
  refine s_end ?_
  refine k_seq ?_
  refine s_region ?_
  refine s_do rfl rfl rfl (d_field rfl (k := 0) (r := 0) (by kernel_rfl) rfl rfl) ?_
  refine s_do rfl rfl rfl (d_load rfl rfl (by kernel_rfl) (here ((B1.ext0 x2).cel 0 rfl))) ?_
  refine s_do rfl rfl rfl (d_build rfl rfl (out := [.bool lf, .slice none 0 0, .slice none 0 0]) (by kernel_rfl)) ?_
  refine s_go rfl rfl rfl (g_alloc (P := Try.prog) rfl (zs := [.bool false, .slice none 0 0, .slice none 0 0]) (by kernel_rfl)) ?_
  rintro _ w3 ⟨b3, rfl, s3, t3, B3, x3⟩
  refine s_put rfl rfl (p_store rfl rfl rfl (vs := [.bool lf, .slice none 0 0, .slice none 0 0]) rfl (by simp [Value.oneCell']) (by kernel_rfl) (B3) (by simp) (out := [.bool lf, .slice none 0 0, .slice none 0 0]) rfl) ?_
  rintro w4 ⟨B4, x4, t4⟩
  refine s_end ?_
  refine k_seq ?_
  refine k_seq ?_
  refine s_region ?_
  refine s_do rfl rfl rfl (d_move rfl rfl) ?_
  refine s_do rfl rfl rfl (d_assign rfl rfl) ?_
  refine s_end ?_
  refine k_block ?_
  refine c_loop (σ := Nat) (fun k => [(8, .int .i64 (k : Int)), (2, .int .i64 (q : Int)), (3, .pointer (some ⟨b1, 0, none⟩)), (6, .pointer (some ⟨b2, 0, none⟩)), (7, .pointer (some ⟨b3, 0, none⟩))])
    (fun k wr => Ext No w wr ∧ Blk b1 [.bool lf, .slice ka ks.length kc, .slice va vs.length vc] 24 wr ∧ Blk b2 [.bool false, .slice none 0 0, .slice none 0 0] 24 wr ∧ (p ≤ k ∧ k ≤ q ∧ ∃ g c g2 c2, Blk b3 [.bool lf, .slice g ((ks.drop p).take (k - p)).length c, .slice g2 ((vs.drop p).take (k - p)).length c2] 24 wr ∧ OwnI 3 w3.heap.size (.slice g ((ks.drop p).take (k - p)).length c) ((ks.drop p).take (k - p)) wr ∧ OwnI 3 w3.heap.size (.slice g2 ((vs.drop p).take (k - p)).length c2) ((vs.drop p).take (k - p)) wr ∧ Apart (.slice g ((ks.drop p).take (k - p)).length c) (.slice g2 ((vs.drop p).take (k - p)).length c2))) (fun k => q - k) p
    (fun _ hF => (hF.cons (hF.cons (hF.cons (hF.cons (hF.cons hF.nil 7 _ _ rfl rfl) 6 _ _ rfl rfl) 3 _ _ rfl rfl) 2 _ _ rfl rfl) 8 _ _ rfl rfl)) ⟨(((((Ext.refl No w).trans x1).trans x2).trans x3).trans_new x4 (fun i hi => by subst hi; omega)), (((B1.ext0 x2).ext0 x3).ext x4 (show ¬ (b1 = b3) by omega)), ((B2.ext0 x3).ext x4 (show ¬ (b2 = b3) by omega)), by omega, by omega, none, 0, none, 0, by simpa using B4, by simpa using OwnI.nil _ _ _, by simpa using OwnI.nil _ _ _, by simpa using Apart.nil _⟩ ?_
  rintro k wr5 ⟨x5, B1r5, B2r5, hI⟩
  have m5 := x5.size
  have lB1r5 := B1r5.lt
  have lB2r5 := B2r5.lt
  obtain ⟨hpk, hkq, g, c, g2, c2, Bb, Oa, Ob, Ap⟩ := hI
  have lBb := Bb.lt
  refine k_seq ?_
  refine k_seq ?_
  refine s_region ?_
  refine s_do rfl rfl rfl (d_move rfl rfl) ?_
  refine s_do rfl rfl rfl (d_move rfl rfl) ?_
  refine s_do rfl rfl rfl (d_lss rfl rfl rfl) ?_
  refine s_end ?_
  refine k_dec rfl (fun h1 => ?_) (fun h1 => ?_)
  · -- yes: (k : Int) < (q : Int)
    refine k_skip ?_
    refine k_seq ?_
    refine k_block ?_
    refine k_seq ?_
    have f6 := Oa
    refine l_region (Ext (fun i => (Value.slice g (((ks.drop p).take (k - p)).length) c).ownBlock = some i) wr5) 11 rfl (by kernel_rfl) (fun w6 x6 z6 => ?_)
    refine l_do 0 (by kernel_rfl) rfl rfl (by kernel_rfl) (by kernel_rfl) (by kernel_rfl) rfl rfl rfl (d_field rfl (k := 1) (r := 1) (by kernel_rfl) rfl rfl) ((Ext.refl (fun i => (Value.slice g (((ks.drop p).take (k - p)).length) c).ownBlock = some i) wr5).trans x6.no) ?_
    refine l_do 1 (by kernel_rfl) rfl rfl (by kernel_rfl) (by kernel_rfl) (by kernel_rfl) rfl rfl rfl (d_load rfl rfl (by kernel_rfl) (fun _ hx => (Bb.extO hx (own_ne Oa (by omega))).cel 1 rfl)) ((Ext.refl (fun i => (Value.slice g (((ks.drop p).take (k - p)).length) c).ownBlock = some i) wr5).trans x6.no) ?_
    refine l_do 2 (by kernel_rfl) rfl rfl (by kernel_rfl) (by kernel_rfl) (by kernel_rfl) rfl rfl rfl (d_field rfl (k := 1) (r := 1) (by kernel_rfl) rfl rfl) ((Ext.refl (fun i => (Value.slice g (((ks.drop p).take (k - p)).length) c).ownBlock = some i) wr5).trans x6.no) ?_
    refine l_do 3 (by kernel_rfl) rfl rfl (by kernel_rfl) (by kernel_rfl) (by kernel_rfl) rfl rfl rfl (d_load rfl rfl (by kernel_rfl) (fun _ hx => (B1r5.extO hx (own_ne Oa (by omega))).cel 1 rfl)) ((Ext.refl (fun i => (Value.slice g (((ks.drop p).take (k - p)).length) c).ownBlock = some i) wr5).trans x6.no) ?_
    refine l_do 4 (by kernel_rfl) rfl rfl (by kernel_rfl) (by kernel_rfl) (by kernel_rfl) rfl rfl rfl (d_move rfl rfl) ((Ext.refl (fun i => (Value.slice g (((ks.drop p).take (k - p)).length) c).ownBlock = some i) wr5).trans x6.no) ?_
    obtain ⟨x, hx⟩ : ∃ x, ks[k]? = some x := ⟨_, List.getElem?_eq_getElem (by omega)⟩
    have hat := hc _ _ hx
    refine l_do 5 (by kernel_rfl) rfl rfl (by kernel_rfl) (by kernel_rfl) (by kernel_rfl) rfl rfl rfl (d_indexE rfl (z := 1) (j := k) (r := k) (by kernel_rfl) rfl rfl rfl (by omega) hat (by omega)) ((Ext.refl (fun i => (Value.slice g (((ks.drop p).take (k - p)).length) c).ownBlock = some i) wr5).trans x6.no) ?_
    refine l_do 6 (by kernel_rfl) rfl rfl (by kernel_rfl) (by kernel_rfl) (by kernel_rfl) rfl rfl rfl (d_loadE rfl rfl (by kernel_rfl) (fun _ hx => hat.ext0 (((Ext.refl No w).trans x5).transO hx f6 (by omega)))) ((Ext.refl (fun i => (Value.slice g (((ks.drop p).take (k - p)).length) c).ownBlock = some i) wr5).trans x6.no) ?_
    refine l_all [7] (by kernel_rfl) (by simp) ?_
    refine all1 ?_
    refine o_go rfl rfl rfl rfl (g_oneI rfl rfl) ?_
    rintro _ w7 ⟨b7, rfl, s7, R7, x7⟩
    have m7 := x7.size
    refine l_and (fun _ => (((Ext.refl (fun i => (Value.slice g (((ks.drop p).take (k - p)).length) c).ownBlock = some i) wr5).trans x6.no).trans x7.no)) ?_
    refine l_all [8] (by kernel_rfl) (by simp) ?_
    refine all1 ?_
    have o8 := ((Oa.ext0 x6).ext0 x7)
    refine o_go rfl rfl rfl rfl (g_appendI rfl rfl rfl (by simp) o8 R7 (by omega) (by first | omega | (simp <;> omega))) ?_
    rintro _ w8 ⟨g8, c8, rfl, O8, x8, y8⟩
    have m8 := x8.size
    refine l_and (fun _ => ((((Ext.refl (fun i => (Value.slice g (((ks.drop p).take (k - p)).length) c).ownBlock = some i) wr5).trans x6.no).trans x7.no).trans x8)) ?_
    refine l_do 9 (by kernel_rfl) rfl rfl (by kernel_rfl) (by kernel_rfl) (by kernel_rfl) rfl rfl rfl (d_field rfl (k := 1) (r := 1) (by kernel_rfl) rfl rfl) ((((Ext.refl (fun i => (Value.slice g (((ks.drop p).take (k - p)).length) c).ownBlock = some i) wr5).trans x6.no).trans x7.no).trans x8) ?_
    refine l_all [10] (by kernel_rfl) (by simp) ?_
    refine all1 ?_
    refine o_put rfl rfl rfl (p_store rfl rfl rfl (vs := [.slice g8 ((((ks.drop p).take (k - p)) ++ ([x])).length) c8]) rfl (by simp [Value.oneCell']) (by kernel_rfl) ((((Bb.ext0 x6).ext0 x7).extO x8 (own_ne Oa (by omega)))) (by simp) (out := [.bool lf, .slice g8 ((((ks.drop p).take (k - p)) ++ ([x])).length) c8, .slice g2 (((vs.drop p).take (k - p)).length) c2]) rfl) ?_
    rintro w9 ⟨B9, x9, t9⟩
    refine l_and (fun h => absurd rfl h) ?_
    refine l_done (by kernel_rfl) ?_
    have f10 := ((((Ob.ext0 x6).ext0 x7).extO x8 Ap).extb x9 (own_ne Ob (by omega)))
    refine l_region (Ext (fun i => (Value.slice g2 (((vs.drop p).take (k - p)).length) c2).ownBlock = some i) w9) 11 rfl (by kernel_rfl) (fun w10 x10 z10 => ?_)
    refine l_do 0 (by kernel_rfl) rfl rfl (by kernel_rfl) (by kernel_rfl) (by kernel_rfl) rfl rfl rfl (d_field rfl (k := 2) (r := 2) (by kernel_rfl) rfl rfl) ((Ext.refl (fun i => (Value.slice g2 (((vs.drop p).take (k - p)).length) c2).ownBlock = some i) w9).trans x10.no) ?_
    refine l_do 1 (by kernel_rfl) rfl rfl (by kernel_rfl) (by kernel_rfl) (by kernel_rfl) rfl rfl rfl (d_load rfl rfl (by kernel_rfl) (fun _ hx => (B9.extO hx (own_ne Ob (by omega))).cel 2 rfl)) ((Ext.refl (fun i => (Value.slice g2 (((vs.drop p).take (k - p)).length) c2).ownBlock = some i) w9).trans x10.no) ?_
    refine l_do 2 (by kernel_rfl) rfl rfl (by kernel_rfl) (by kernel_rfl) (by kernel_rfl) rfl rfl rfl (d_field rfl (k := 2) (r := 2) (by kernel_rfl) rfl rfl) ((Ext.refl (fun i => (Value.slice g2 (((vs.drop p).take (k - p)).length) c2).ownBlock = some i) w9).trans x10.no) ?_
    refine l_do 3 (by kernel_rfl) rfl rfl (by kernel_rfl) (by kernel_rfl) (by kernel_rfl) rfl rfl rfl (d_load rfl rfl (by kernel_rfl) (fun _ hx => (((((B1r5.ext0 x6).ext0 x7).extO x8 (own_ne Oa (by omega))).ext x9 (show ¬ (b1 = b3) by omega)).extO hx (own_ne Ob (by omega))).cel 2 rfl)) ((Ext.refl (fun i => (Value.slice g2 (((vs.drop p).take (k - p)).length) c2).ownBlock = some i) w9).trans x10.no) ?_
    refine l_do 4 (by kernel_rfl) rfl rfl (by kernel_rfl) (by kernel_rfl) (by kernel_rfl) rfl rfl rfl (d_move rfl rfl) ((Ext.refl (fun i => (Value.slice g2 (((vs.drop p).take (k - p)).length) c2).ownBlock = some i) w9).trans x10.no) ?_
    obtain ⟨y, hy⟩ : ∃ x, vs[k]? = some x := ⟨_, List.getElem?_eq_getElem (by omega)⟩
    have hbt := hd _ _ hy
    refine l_do 5 (by kernel_rfl) rfl rfl (by kernel_rfl) (by kernel_rfl) (by kernel_rfl) rfl rfl rfl (d_indexE rfl (z := 1) (j := k) (r := k) (by kernel_rfl) rfl rfl rfl (by omega) hbt (by omega)) ((Ext.refl (fun i => (Value.slice g2 (((vs.drop p).take (k - p)).length) c2).ownBlock = some i) w9).trans x10.no) ?_
    refine l_do 6 (by kernel_rfl) rfl rfl (by kernel_rfl) (by kernel_rfl) (by kernel_rfl) rfl rfl rfl (d_loadE rfl rfl (by kernel_rfl) (fun _ hx => hbt.ext0 (((((((Ext.refl No w).trans x5).trans x6).trans x7).transO x8 o8 (by omega)).trans_new x9 (fun i hi => by subst hi; omega)).transO hx f10 (by omega)))) ((Ext.refl (fun i => (Value.slice g2 (((vs.drop p).take (k - p)).length) c2).ownBlock = some i) w9).trans x10.no) ?_
    refine l_all [7] (by kernel_rfl) (by simp) ?_
    refine all1 ?_
    refine o_go rfl rfl rfl rfl (g_oneI rfl rfl) ?_
    rintro _ w11 ⟨b11, rfl, s11, R11, x11⟩
    have m11 := x11.size
    refine l_and (fun _ => (((Ext.refl (fun i => (Value.slice g2 (((vs.drop p).take (k - p)).length) c2).ownBlock = some i) w9).trans x10.no).trans x11.no)) ?_
    refine l_all [8] (by kernel_rfl) (by simp) ?_
    refine all1 ?_
    have o12 := ((((((Ob.ext0 x6).ext0 x7).extO x8 Ap).extb x9 (own_ne Ob (by omega))).ext0 x10).ext0 x11)
    refine o_go rfl rfl rfl rfl (g_appendI rfl rfl rfl (by simp) o12 R11 (by omega) (by first | omega | (simp <;> omega))) ?_
    rintro _ w12 ⟨g12, c12, rfl, O12, x12, y12⟩
    have m12 := x12.size
    refine l_and (fun _ => ((((Ext.refl (fun i => (Value.slice g2 (((vs.drop p).take (k - p)).length) c2).ownBlock = some i) w9).trans x10.no).trans x11.no).trans x12)) ?_
    refine l_do 9 (by kernel_rfl) rfl rfl (by kernel_rfl) (by kernel_rfl) (by kernel_rfl) rfl rfl rfl (d_field rfl (k := 2) (r := 2) (by kernel_rfl) rfl rfl) ((((Ext.refl (fun i => (Value.slice g2 (((vs.drop p).take (k - p)).length) c2).ownBlock = some i) w9).trans x10.no).trans x11.no).trans x12) ?_
    refine l_all [10] (by kernel_rfl) (by simp) ?_
    refine all1 ?_
    refine o_put rfl rfl rfl (p_store rfl rfl rfl (vs := [.slice g12 ((((vs.drop p).take (k - p)) ++ ([y])).length) c12]) rfl (by simp [Value.oneCell']) (by kernel_rfl) ((((B9.ext0 x10).ext0 x11).extO x12 (own_ne Ob (by omega)))) (by simp) (out := [.bool lf, .slice g8 ((((ks.drop p).take (k - p)) ++ ([x])).length) c8, .slice g12 ((((vs.drop p).take (k - p)) ++ ([y])).length) c12]) rfl) ?_
    rintro w13 ⟨B13, x13, t13⟩
    refine l_and (fun h => absurd rfl h) ?_
    refine l_done (by kernel_rfl) ?_
    refine s_region ?_
    refine s_do rfl rfl rfl (d_move rfl rfl) ?_
    refine s_do rfl rfl rfl (d_add64 rfl rfl rfl (r := (k : Int) + 1) (by omega) (by omega)) ?_
    refine s_do rfl rfl rfl (d_assign rfl rfl) ?_
    refine s_end ?_
    intro _ hF
    refine ⟨(k + 1), (hF.cons (hF.cons (hF.cons (hF.cons (hF.cons hF.nil 7 _ _ rfl rfl) 6 _ _ rfl rfl) 3 _ _ rfl rfl) 2 _ _ rfl rfl) 8 _ _ rfl (by go_num)), ⟨((((((((x5.trans x6).trans x7).transO x8 o8 (by omega)).trans_new x9 (fun i hi => by subst hi; omega)).trans x10).trans x11).transO x12 o12 (by omega)).trans_new x13 (fun i hi => by subst hi; omega)), ((((((((B1r5.ext0 x6).ext0 x7).extO x8 (own_ne Oa (by omega))).ext x9 (show ¬ (b1 = b3) by omega)).ext0 x10).ext0 x11).extO x12 (own_ne Ob (by omega))).ext x13 (show ¬ (b1 = b3) by omega)), ((((((((B2r5.ext0 x6).ext0 x7).extO x8 (own_ne Oa (by omega))).ext x9 (show ¬ (b2 = b3) by omega)).ext0 x10).ext0 x11).extO x12 (own_ne Ob (by omega))).ext x13 (show ¬ (b2 = b3) by omega)), ?_⟩, ?_⟩
    · have e1 : (ks.drop p).take (k - p) ++ [x] = (ks.drop p).take (k + 1 - p) := by rw [show k + 1 - p = (k - p) + 1 from by omega, List.take_add_one, List.getElem?_drop, show p + (k - p) = k from by omega, hx]; rfl
      have e2 : (vs.drop p).take (k - p) ++ [y] = (vs.drop p).take (k + 1 - p) := by rw [show k + 1 - p = (k - p) + 1 from by omega, List.take_add_one, List.getElem?_drop, show p + (k - p) = k from by omega, hy]; rfl
      rw [← e1, ← e2]
      exact ⟨by omega, by omega, _, _, _, _, B13, (((((O8.extb x9 (ne_grown y8 (own_ne Oa (by omega)) (by omega))).ext0 x10).ext0 x11).extO x12 ((apart_grown y8 Ap ((Ob.ext0 x6).ext0 x7))).symm).extb x13 (ne_grown y8 (own_ne Oa (by omega)) (by omega))), (O12.extb x13 (ne_grown y12 (own_ne Ob (by omega)) (by omega))), ((apart_grown y12 ((apart_grown y8 Ap ((Ob.ext0 x6).ext0 x7))).symm (((O8.extb x9 (ne_grown y8 (own_ne Oa (by omega)) (by omega))).ext0 x10).ext0 x11))).symm⟩
    · omega
  · -- no: (k : Int) < (q : Int)
    refine k_exit ?_
    refine k_here ?_
    refine k_seq ?_
    refine s_region ?_
    refine s_do rfl rfl rfl (d_loadAgg rfl rfl (vs := [.bool lf, .slice g (((ks.drop p).take (k - p)).length) c, .slice g2 (((vs.drop p).take (k - p)).length) c2]) (by kernel_rfl) (here (Bb.part 0 3 _ rfl))) ?_
    refine s_put rfl rfl (p_store rfl rfl rfl (vs := [.bool lf, .slice g (((ks.drop p).take (k - p)).length) c, .slice g2 (((vs.drop p).take (k - p)).length) c2]) rfl (by simp [Value.oneCell']) (by kernel_rfl) (B2r5) (by simp) (out := [.bool lf, .slice g (((ks.drop p).take (k - p)).length) c, .slice g2 (((vs.drop p).take (k - p)).length) c2]) rfl) ?_
    rintro w14 ⟨B14, x14, t14⟩
    refine s_end ?_
    refine k_ret ?_
    refine doneL rfl [.agg #[.bool lf, .slice g (((ks.drop p).take (k - p)).length) c, .slice g2 (((vs.drop p).take (k - p)).length) c2]] ⟨⟨_, _, rfl, run_loadBlk (by kernel_rfl) (B14) (vs := [.bool lf, .slice g (((ks.drop p).take (k - p)).length) c, .slice g2 (((vs.drop p).take (k - p)).length) c2]) rfl⟩, trivial⟩ (v := .agg #[.bool lf, .slice g (((ks.drop p).take (k - p)).length) c, .slice g2 (((vs.drop p).take (k - p)).length) c2]) rfl ?_
    have X := (((Ext.refl No w).trans x5).trans_new x14 (fun i hi => by subst hi; omega))
    obtain rfl : k = q := by omega
    exact ⟨(ResN.mk ((Oa.extb x14 (own_ne Oa (by omega))).base (by omega)) ((Ob.extb x14 (own_ne Ob (by omega))).base (by omega)) Ap), X⟩
end Go.Proofs.Yteehoppklgcggaa
