/-
  Walks of package node and of its reference: halves, neighbours. No condition.
-/
import Derived.Test.YteehoppklgcggaaNodeE
set_option maxRecDepth 100000
namespace Go.Proofs.Yteehoppklgcggaa
open Go.RowKit
theorem halves_c (lf : Bool) (kv vv : Value) (ks vs : List Int) (w : World) (hk : RdI kv ks w) (hv : RdI vv vs w) (he : ks.length = vs.length) (hbk : ks.length ≤ 1000) :
    Calls Try.prog 34 #[.agg #[.bool lf, kv, vv]] w (Ret fun v w' => ∃ u u2, v = .tuple #[u, u2] ∧ ResN w.heap.size lf (ks.take ((ks.length + 1) / 2)) (vs.take ((ks.length + 1) / 2)) u w' ∧ ResN w.heap.size lf (ks.drop ((ks.length + 1) / 2)) (vs.drop ((ks.length + 1) / 2)) u2 w' ∧ Ap2 u u2 ∧ Ext No w w') := by
  have hk0 := hk; have hv0 := hv
  obtain ⟨ka, kc, rfl, hkc, hkm, hc⟩ := hk0.opened
  obtain ⟨va, vc, rfl, hvc, hvm, hd⟩ := hv0.opened
  obtain ⟨h, hh⟩ : ∃ h, h = (ks.length + 1) / 2 := ⟨_, rfl⟩
  refine enter Try.func34 rfl 19 Try.ntmps34 rfl ?_
  refine k_seq ?_
  refine s_region ?_
  refine s_go rfl rfl rfl (g_box rfl rfl rfl) ?_
  rintro _ w1 ⟨b1, rfl, s1, t1, B1, x1⟩
  refine s_go rfl rfl rfl (g_alloc (P := Try.prog) rfl (zs := [.bool false, .slice none 0 0, .slice none 0 0]) (by kernel_rfl)) ?_
  rintro _ w2 ⟨b2, rfl, s2, t2, B2, x2⟩
  refine s_go rfl rfl rfl (g_alloc (P := Try.prog) rfl (zs := [.bool false, .slice none 0 0, .slice none 0 0]) (by kernel_rfl)) ?_
  rintro _ w3 ⟨b3, rfl, s3, t3, B3, x3⟩
  refine s_end ?_
  refine k_seq ?_
  refine s_region ?_
  refine s_do rfl rfl rfl (d_field rfl (k := 1) (r := 1) (by kernel_rfl) rfl rfl) ?_
  refine s_do rfl rfl rfl (d_load rfl rfl (by kernel_rfl) (here (((B1.ext0 x2).ext0 x3).cel 1 rfl))) ?_
  refine s_do rfl rfl rfl (d_len rfl (z := 1) (by kernel_rfl) rfl) ?_
  refine s_do rfl rfl rfl (d_add64 rfl rfl rfl (r := (ks.length : Int) + 1) (by omega) (by omega)) ?_
  refine s_do rfl rfl rfl (d_quo64 rfl rfl rfl (r := (h : Int)) (by omega) (by omega) (by omega) (by omega)) ?_
  refine s_do rfl rfl rfl (d_assign rfl rfl) ?_
  refine s_end ?_
  refine k_seq ?_
  refine a_region (Ext (fun i => i = b2 ∨ i = b3) w3) 11 rfl (by kernel_rfl) (fun w4 x4 z4 => ?_)
  refine a_do 0 rfl (by kernel_rfl) (by kernel_rfl) (by kernel_rfl) rfl rfl rfl (d_loadAgg rfl rfl (vs := [.bool lf, .slice ka ks.length kc, .slice va vs.length vc]) (by kernel_rfl) (fun _ hx => (((B1.ext0 x2).ext0 x3).ext hx (show ¬ (b1 = b2 ∨ b1 = b3) by omega)).part 0 3 _ rfl)) ((Ext.refl (fun i => i = b2 ∨ i = b3) w3).trans x4.no) ?_
  refine a_do 1 rfl (by kernel_rfl) (by kernel_rfl) (by kernel_rfl) rfl rfl rfl (d_move rfl rfl) ((Ext.refl (fun i => i = b2 ∨ i = b3) w3).trans x4.no) ?_
  refine a_do 3 rfl (by kernel_rfl) (by kernel_rfl) (by kernel_rfl) rfl rfl rfl (d_loadAgg rfl rfl (vs := [.bool lf, .slice ka ks.length kc, .slice va vs.length vc]) (by kernel_rfl) (fun _ hx => (((B1.ext0 x2).ext0 x3).ext hx (show ¬ (b1 = b2 ∨ b1 = b3) by omega)).part 0 3 _ rfl)) ((Ext.refl (fun i => i = b2 ∨ i = b3) w3).trans x4.no) ?_
  refine a_do 4 rfl (by kernel_rfl) (by kernel_rfl) (by kernel_rfl) rfl rfl rfl (d_move rfl rfl) ((Ext.refl (fun i => i = b2 ∨ i = b3) w3).trans x4.no) ?_
  refine a_do 5 rfl (by kernel_rfl) (by kernel_rfl) (by kernel_rfl) rfl rfl rfl (d_field rfl (k := 1) (r := 1) (by kernel_rfl) rfl rfl) ((Ext.refl (fun i => i = b2 ∨ i = b3) w3).trans x4.no) ?_
  refine a_do 6 rfl (by kernel_rfl) (by kernel_rfl) (by kernel_rfl) rfl rfl rfl (d_load rfl rfl (by kernel_rfl) (fun _ hx => (((B1.ext0 x2).ext0 x3).ext hx (show ¬ (b1 = b2 ∨ b1 = b3) by omega)).cel 1 rfl)) ((Ext.refl (fun i => i = b2 ∨ i = b3) w3).trans x4.no) ?_
  refine a_do 7 rfl (by kernel_rfl) (by kernel_rfl) (by kernel_rfl) rfl rfl rfl (d_len rfl (z := 1) (by kernel_rfl) rfl) ((Ext.refl (fun i => i = b2 ∨ i = b3) w3).trans x4.no) ?_
  refine a_all [2] (by kernel_rfl) (by simp) ?_
  refine all1 ?_
  refine o_call rfl rfl rfl rfl rfl rfl (fun w => Try.call31 _ w) (castN (part_c _ _ _ ks vs 0 h _ _ _ (by simp) (by simp) ((((hk.ext0 x1).ext0 x2).ext0 x3).ext0 x4) ((((hv.ext0 x1).ext0 x2).ext0 x3).ext0 x4) (by first | omega | (simp <;> omega)) (by first | omega | (simp <;> omega)) (by first | omega | (simp <;> omega)) (by first | omega | (simp <;> omega)) (by first | omega | (simp <;> omega))) (ks' := ks.take h) (vs' := vs.take h) (take_cut _ _) (take_cut _ _)) ?_
  rintro _ w5 ⟨⟨ga5, ca5, gb5, cb5, rfl, Oa5, Ob5, Ap5⟩, x5⟩
  have m5 := x5.size
  refine a_and (((Ext.refl (fun i => i = b2 ∨ i = b3) w3).trans x4.no).trans x5.no) ?_
  refine a_all [8] (by kernel_rfl) (by simp) ?_
  refine all1 ?_
  refine o_call rfl rfl rfl rfl rfl rfl (fun w => Try.call31 _ w) (castN (part_c _ _ _ ks vs h ks.length _ _ _ (by simp) (by simp) (((((hk.ext0 x1).ext0 x2).ext0 x3).ext0 x4).ext0 x5) (((((hv.ext0 x1).ext0 x2).ext0 x3).ext0 x4).ext0 x5) (by first | omega | (simp <;> omega)) (by first | omega | (simp <;> omega)) (by first | omega | (simp <;> omega)) (by first | omega | (simp <;> omega)) (by first | omega | (simp <;> omega))) (ks' := ks.drop h) (vs' := vs.drop h) (drop_cut _ _ _ rfl) (drop_cut _ _ _ he)) ?_
  rintro _ w6 ⟨⟨ga6, ca6, gb6, cb6, rfl, Oa6, Ob6, Ap6⟩, x6⟩
  have m6 := x6.size
  refine a_and ((((Ext.refl (fun i => i = b2 ∨ i = b3) w3).trans x4.no).trans x5.no).trans x6.no) ?_
  refine a_all [9] (by kernel_rfl) (by simp) ?_
  refine all1 ?_
  refine o_put rfl rfl rfl (p_store rfl rfl rfl (vs := [.bool lf, .slice ga5 ((ks.take h).length) ca5, .slice gb5 ((vs.take h).length) cb5]) rfl (by simp [Value.oneCell']) (by kernel_rfl) (((((B2.ext0 x3).ext0 x4).ext0 x5).ext0 x6)) (by simp) (out := [.bool lf, .slice ga5 ((ks.take h).length) ca5, .slice gb5 ((vs.take h).length) cb5]) rfl) ?_
  rintro w7 ⟨B7, x7, t7⟩
  refine a_and (((((Ext.refl (fun i => i = b2 ∨ i = b3) w3).trans x4.no).trans x5.no).trans x6.no).trans (x7.mono fun i _ q => by first | exact .inl q | exact .inr q)) ?_
  refine a_all [10] (by kernel_rfl) (by simp) ?_
  refine all1 ?_
  refine o_put rfl rfl rfl (p_store rfl rfl rfl (vs := [.bool lf, .slice ga6 ((ks.drop h).length) ca6, .slice gb6 ((vs.drop h).length) cb6]) rfl (by simp [Value.oneCell']) (by kernel_rfl) (((((B3.ext0 x4).ext0 x5).ext0 x6).ext x7 (show ¬ (b3 = b2) by omega))) (by simp) (out := [.bool lf, .slice ga6 ((ks.drop h).length) ca6, .slice gb6 ((vs.drop h).length) cb6]) rfl) ?_
  rintro w8 ⟨B8, x8, t8⟩
  refine a_and ((((((Ext.refl (fun i => i = b2 ∨ i = b3) w3).trans x4.no).trans x5.no).trans x6.no).trans (x7.mono fun i _ q => by first | exact .inl q | exact .inr q)).trans (x8.mono fun i _ q => by first | exact .inl q | exact .inr q)) ?_
  refine a_done (by kernel_rfl) ?_
  refine k_ret ?_
  refine doneL rfl [.agg #[.bool lf, .slice ga5 ((ks.take h).length) ca5, .slice gb5 ((vs.take h).length) cb5], .agg #[.bool lf, .slice ga6 ((ks.drop h).length) ca6, .slice gb6 ((vs.drop h).length) cb6]] ⟨⟨_, _, rfl, run_loadBlk (by kernel_rfl) ((B7.ext x8 (show ¬ (b2 = b3) by omega))) (vs := [.bool lf, .slice ga5 ((ks.take h).length) ca5, .slice gb5 ((vs.take h).length) cb5]) rfl⟩, ⟨⟨_, _, rfl, run_loadBlk (by kernel_rfl) (B8) (vs := [.bool lf, .slice ga6 ((ks.drop h).length) ca6, .slice gb6 ((vs.drop h).length) cb6]) rfl⟩, trivial⟩⟩ (v := .tuple #[.agg #[.bool lf, .slice ga5 ((ks.take h).length) ca5, .slice gb5 ((vs.take h).length) cb5], .agg #[.bool lf, .slice ga6 ((ks.drop h).length) ca6, .slice gb6 ((vs.drop h).length) cb6]]) rfl ?_
  have X := (((((((((Ext.refl No w).trans x1).trans x2).trans x3).trans x4).trans x5).trans x6).trans_new x7 (fun i hi => by subst hi; omega)).trans_new x8 (fun i hi => by subst hi; omega))
  subst hh
  exact ⟨_, _, rfl, (ResN.mk ((((Oa5.ext0 x6).extb x7 (own_ne Oa5 (by omega))).extb x8 (own_ne Oa5 (by omega))).base (by omega)) ((((Ob5.ext0 x6).extb x7 (own_ne Ob5 (by omega))).extb x8 (own_ne Ob5 (by omega))).base (by omega)) Ap5), (ResN.mk (((Oa6.extb x7 (own_ne Oa6 (by omega))).extb x8 (own_ne Oa6 (by omega))).base (by omega)) (((Ob6.extb x7 (own_ne Ob6 (by omega))).extb x8 (own_ne Ob6 (by omega))).base (by omega)) Ap6), (Ap2.mk (OwnI.apart Oa5 Oa6 (by omega)) (OwnI.apart Oa5 Ob6 (by omega)) (OwnI.apart Ob5 Oa6 (by omega)) (OwnI.apart Ob5 Ob6 (by omega))), X⟩

theorem rhalves_c (lf : Bool) (kv vv : Value) (ks vs : List Int) (w : World) (hk : RdI kv ks w) (hv : RdI vv vs w) (he : ks.length = vs.length) (hbk : ks.length ≤ 1000) :
    Calls Try.prog 35 #[.agg #[.bool lf, kv, vv]] w (Ret fun v w' => ∃ u u2, v = .tuple #[u, u2] ∧ ResN w.heap.size lf (ks.take ((ks.length + 1) / 2)) (vs.take ((ks.length + 1) / 2)) u w' ∧ ResN w.heap.size lf (ks.drop ((ks.length + 1) / 2)) (vs.drop ((ks.length + 1) / 2)) u2 w' ∧ Ap2 u u2 ∧ Ext No w w') := by
  have hk0 := hk; have hv0 := hv
  obtain ⟨ka, kc, rfl, hkc, hkm, hc⟩ := hk0.opened
  obtain ⟨va, vc, rfl, hvc, hvm, hd⟩ := hv0.opened
  obtain ⟨h, hh⟩ : ∃ h, h = (ks.length + 1) / 2 := ⟨_, rfl⟩
  refine enter Try.func35 rfl 22 Try.ntmps35 rfl ?_
  refine k_seq ?_
  refine s_region ?_
  refine s_go rfl rfl rfl (g_box rfl rfl rfl) ?_
  rintro _ w1 ⟨b1, rfl, s1, t1, B1, x1⟩
  refine s_go rfl rfl rfl (g_alloc (P := Try.prog) rfl (zs := [.bool false, .slice none 0 0, .slice none 0 0]) (by kernel_rfl)) ?_
  rintro _ w2 ⟨b2, rfl, s2, t2, B2, x2⟩
  refine s_go rfl rfl rfl (g_alloc (P := Try.prog) rfl (zs := [.bool false, .slice none 0 0, .slice none 0 0]) (by kernel_rfl)) ?_
  rintro _ w3 ⟨b3, rfl, s3, t3, B3, x3⟩
  refine s_end ?_
  refine k_seq ?_
  refine s_region ?_
  refine s_do rfl rfl rfl (d_field rfl (k := 1) (r := 1) (by kernel_rfl) rfl rfl) ?_
  refine s_do rfl rfl rfl (d_load rfl rfl (by kernel_rfl) (here (((B1.ext0 x2).ext0 x3).cel 1 rfl))) ?_
  refine s_do rfl rfl rfl (d_len rfl (z := 1) (by kernel_rfl) rfl) ?_
  refine s_do rfl rfl rfl (d_field rfl (k := 1) (r := 1) (by kernel_rfl) rfl rfl) ?_
  refine s_do rfl rfl rfl (d_load rfl rfl (by kernel_rfl) (here (((B1.ext0 x2).ext0 x3).cel 1 rfl))) ?_
  refine s_do rfl rfl rfl (d_len rfl (z := 1) (by kernel_rfl) rfl) ?_
  refine s_do rfl rfl rfl (d_quo64 rfl rfl rfl (r := (ks.length : Int) / 2) (by omega) (by omega) (by omega) (by omega)) ?_
  refine s_do rfl rfl rfl (d_sub64 rfl rfl rfl (r := (h : Int)) (by omega) (by omega)) ?_
  refine s_do rfl rfl rfl (d_assign rfl rfl) ?_
  refine s_end ?_
  refine k_seq ?_
  refine a_region (Ext (fun i => i = b2 ∨ i = b3) w3) 11 rfl (by kernel_rfl) (fun w4 x4 z4 => ?_)
  refine a_do 0 rfl (by kernel_rfl) (by kernel_rfl) (by kernel_rfl) rfl rfl rfl (d_loadAgg rfl rfl (vs := [.bool lf, .slice ka ks.length kc, .slice va vs.length vc]) (by kernel_rfl) (fun _ hx => (((B1.ext0 x2).ext0 x3).ext hx (show ¬ (b1 = b2 ∨ b1 = b3) by omega)).part 0 3 _ rfl)) ((Ext.refl (fun i => i = b2 ∨ i = b3) w3).trans x4.no) ?_
  refine a_do 1 rfl (by kernel_rfl) (by kernel_rfl) (by kernel_rfl) rfl rfl rfl (d_move rfl rfl) ((Ext.refl (fun i => i = b2 ∨ i = b3) w3).trans x4.no) ?_
  refine a_do 3 rfl (by kernel_rfl) (by kernel_rfl) (by kernel_rfl) rfl rfl rfl (d_loadAgg rfl rfl (vs := [.bool lf, .slice ka ks.length kc, .slice va vs.length vc]) (by kernel_rfl) (fun _ hx => (((B1.ext0 x2).ext0 x3).ext hx (show ¬ (b1 = b2 ∨ b1 = b3) by omega)).part 0 3 _ rfl)) ((Ext.refl (fun i => i = b2 ∨ i = b3) w3).trans x4.no) ?_
  refine a_do 4 rfl (by kernel_rfl) (by kernel_rfl) (by kernel_rfl) rfl rfl rfl (d_move rfl rfl) ((Ext.refl (fun i => i = b2 ∨ i = b3) w3).trans x4.no) ?_
  refine a_do 5 rfl (by kernel_rfl) (by kernel_rfl) (by kernel_rfl) rfl rfl rfl (d_field rfl (k := 1) (r := 1) (by kernel_rfl) rfl rfl) ((Ext.refl (fun i => i = b2 ∨ i = b3) w3).trans x4.no) ?_
  refine a_do 6 rfl (by kernel_rfl) (by kernel_rfl) (by kernel_rfl) rfl rfl rfl (d_load rfl rfl (by kernel_rfl) (fun _ hx => (((B1.ext0 x2).ext0 x3).ext hx (show ¬ (b1 = b2 ∨ b1 = b3) by omega)).cel 1 rfl)) ((Ext.refl (fun i => i = b2 ∨ i = b3) w3).trans x4.no) ?_
  refine a_do 7 rfl (by kernel_rfl) (by kernel_rfl) (by kernel_rfl) rfl rfl rfl (d_len rfl (z := 1) (by kernel_rfl) rfl) ((Ext.refl (fun i => i = b2 ∨ i = b3) w3).trans x4.no) ?_
  refine a_all [2] (by kernel_rfl) (by simp) ?_
  refine all1 ?_
  refine o_call rfl rfl rfl rfl rfl rfl (fun w => Try.call33 _ w) (castN (from_c _ _ _ ks vs 0 h _ _ _ (by simp) (by simp) ((((hk.ext0 x1).ext0 x2).ext0 x3).ext0 x4) ((((hv.ext0 x1).ext0 x2).ext0 x3).ext0 x4) (by first | omega | (simp <;> omega)) (by first | omega | (simp <;> omega)) (by first | omega | (simp <;> omega)) (by first | omega | (simp <;> omega)) (by first | omega | (simp <;> omega))) (ks' := ks.take h) (vs' := vs.take h) (take_cut _ _) (take_cut _ _)) ?_
  rintro _ w5 ⟨⟨ga5, ca5, gb5, cb5, rfl, Oa5, Ob5, Ap5⟩, x5⟩
  have m5 := x5.size
  refine a_and (((Ext.refl (fun i => i = b2 ∨ i = b3) w3).trans x4.no).trans x5.no) ?_
  refine a_all [8] (by kernel_rfl) (by simp) ?_
  refine all1 ?_
  refine o_call rfl rfl rfl rfl rfl rfl (fun w => Try.call33 _ w) (castN (from_c _ _ _ ks vs h ks.length _ _ _ (by simp) (by simp) (((((hk.ext0 x1).ext0 x2).ext0 x3).ext0 x4).ext0 x5) (((((hv.ext0 x1).ext0 x2).ext0 x3).ext0 x4).ext0 x5) (by first | omega | (simp <;> omega)) (by first | omega | (simp <;> omega)) (by first | omega | (simp <;> omega)) (by first | omega | (simp <;> omega)) (by first | omega | (simp <;> omega))) (ks' := ks.drop h) (vs' := vs.drop h) (drop_cut _ _ _ rfl) (drop_cut _ _ _ he)) ?_
  rintro _ w6 ⟨⟨ga6, ca6, gb6, cb6, rfl, Oa6, Ob6, Ap6⟩, x6⟩
  have m6 := x6.size
  refine a_and ((((Ext.refl (fun i => i = b2 ∨ i = b3) w3).trans x4.no).trans x5.no).trans x6.no) ?_
  refine a_all [9] (by kernel_rfl) (by simp) ?_
  refine all1 ?_
  refine o_put rfl rfl rfl (p_store rfl rfl rfl (vs := [.bool lf, .slice ga5 ((ks.take h).length) ca5, .slice gb5 ((vs.take h).length) cb5]) rfl (by simp [Value.oneCell']) (by kernel_rfl) (((((B2.ext0 x3).ext0 x4).ext0 x5).ext0 x6)) (by simp) (out := [.bool lf, .slice ga5 ((ks.take h).length) ca5, .slice gb5 ((vs.take h).length) cb5]) rfl) ?_
  rintro w7 ⟨B7, x7, t7⟩
  refine a_and (((((Ext.refl (fun i => i = b2 ∨ i = b3) w3).trans x4.no).trans x5.no).trans x6.no).trans (x7.mono fun i _ q => by first | exact .inl q | exact .inr q)) ?_
  refine a_all [10] (by kernel_rfl) (by simp) ?_
  refine all1 ?_
  refine o_put rfl rfl rfl (p_store rfl rfl rfl (vs := [.bool lf, .slice ga6 ((ks.drop h).length) ca6, .slice gb6 ((vs.drop h).length) cb6]) rfl (by simp [Value.oneCell']) (by kernel_rfl) (((((B3.ext0 x4).ext0 x5).ext0 x6).ext x7 (show ¬ (b3 = b2) by omega))) (by simp) (out := [.bool lf, .slice ga6 ((ks.drop h).length) ca6, .slice gb6 ((vs.drop h).length) cb6]) rfl) ?_
  rintro w8 ⟨B8, x8, t8⟩
  refine a_and ((((((Ext.refl (fun i => i = b2 ∨ i = b3) w3).trans x4.no).trans x5.no).trans x6.no).trans (x7.mono fun i _ q => by first | exact .inl q | exact .inr q)).trans (x8.mono fun i _ q => by first | exact .inl q | exact .inr q)) ?_
  refine a_done (by kernel_rfl) ?_
  refine k_ret ?_
  refine doneL rfl [.agg #[.bool lf, .slice ga5 ((ks.take h).length) ca5, .slice gb5 ((vs.take h).length) cb5], .agg #[.bool lf, .slice ga6 ((ks.drop h).length) ca6, .slice gb6 ((vs.drop h).length) cb6]] ⟨⟨_, _, rfl, run_loadBlk (by kernel_rfl) ((B7.ext x8 (show ¬ (b2 = b3) by omega))) (vs := [.bool lf, .slice ga5 ((ks.take h).length) ca5, .slice gb5 ((vs.take h).length) cb5]) rfl⟩, ⟨⟨_, _, rfl, run_loadBlk (by kernel_rfl) (B8) (vs := [.bool lf, .slice ga6 ((ks.drop h).length) ca6, .slice gb6 ((vs.drop h).length) cb6]) rfl⟩, trivial⟩⟩ (v := .tuple #[.agg #[.bool lf, .slice ga5 ((ks.take h).length) ca5, .slice gb5 ((vs.take h).length) cb5], .agg #[.bool lf, .slice ga6 ((ks.drop h).length) ca6, .slice gb6 ((vs.drop h).length) cb6]]) rfl ?_
  have X := (((((((((Ext.refl No w).trans x1).trans x2).trans x3).trans x4).trans x5).trans x6).trans_new x7 (fun i hi => by subst hi; omega)).trans_new x8 (fun i hi => by subst hi; omega))
  subst hh
  exact ⟨_, _, rfl, (ResN.mk ((((Oa5.ext0 x6).extb x7 (own_ne Oa5 (by omega))).extb x8 (own_ne Oa5 (by omega))).base (by omega)) ((((Ob5.ext0 x6).extb x7 (own_ne Ob5 (by omega))).extb x8 (own_ne Ob5 (by omega))).base (by omega)) Ap5), (ResN.mk (((Oa6.extb x7 (own_ne Oa6 (by omega))).extb x8 (own_ne Oa6 (by omega))).base (by omega)) (((Ob6.extb x7 (own_ne Ob6 (by omega))).extb x8 (own_ne Ob6 (by omega))).base (by omega)) Ap6), (Ap2.mk (OwnI.apart Oa5 Oa6 (by omega)) (OwnI.apart Oa5 Ob6 (by omega)) (OwnI.apart Ob5 Oa6 (by omega)) (OwnI.apart Ob5 Ob6 (by omega))), X⟩

theorem split_c (lf : Bool) (kv vv : Value) (ks vs : List Int) (w : World) (hk : RdI kv ks w) (hv : RdI vv vs w) :
    Calls Try.prog 23 #[.agg #[.bool lf, kv, vv]] w (Ret fun v w' => ∃ u u2, v = .tuple #[u, u2, .int .i64 (splitN lf ks vs).2.2] ∧ ResN w.heap.size (splitN lf ks vs).1.1 (splitN lf ks vs).1.2.1 (splitN lf ks vs).1.2.2 u w' ∧ ResN w.heap.size (splitN lf ks vs).2.1.1 (splitN lf ks vs).2.1.2.1 (splitN lf ks vs).2.1.2.2 u2 w' ∧ Ap2 u u2 ∧ Ext No w w') := by
  have hk0 := hk; have hv0 := hv
  obtain ⟨ka, kc, rfl, hkc, hkm, hc⟩ := hk0.opened
  obtain ⟨va, vc, rfl, hvc, hvm, hd⟩ := hv0.opened
  refine enter Try.func23 rfl 25 Try.ntmps23 rfl ?_
  refine k_seq ?_
  refine s_region ?_
  refine s_go rfl rfl rfl (g_box rfl rfl rfl) ?_
  rintro _ w1 ⟨b1, rfl, s1, t1, B1, x1⟩
  refine s_go rfl rfl rfl (g_alloc (P := Try.prog) rfl (zs := [.bool false, .slice none 0 0, .slice none 0 0]) (by kernel_rfl)) ?_
  rintro _ w2 ⟨b2, rfl, s2, t2, B2, x2⟩
  refine s_go rfl rfl rfl (g_alloc (P := Try.prog) rfl (zs := [.bool false, .slice none 0 0, .slice none 0 0]) (by kernel_rfl)) ?_
  rintro _ w3 ⟨b3, rfl, s3, t3, B3, x3⟩
  refine s_do rfl rfl rfl (d_assign rfl rfl) ?_
  refine s_end ?_
  refine k_seq ?_
  refine k_seq ?_
  refine s_region ?_
  refine s_do rfl rfl rfl (d_loadAgg rfl rfl (vs := [.bool lf, .slice ka ks.length kc, .slice va vs.length vc]) (by kernel_rfl) (here (((B1.ext0 x2).ext0 x3).part 0 3 _ rfl))) ?_
  refine s_call rfl rfl rfl rfl rfl (fun w => Try.call12 _ w) (check_c lf _ _ ks vs _ (((hk.ext0 x1).ext0 x2).ext0 x3) (((hv.ext0 x1).ext0 x2).ext0 x3)) ?_
  rintro _ w4 ⟨rfl, x4⟩
  have m4 := x4.size
  refine s_do rfl rfl rfl (d_neq rfl rfl rfl) ?_
  refine s_do rfl rfl rfl (d_move rfl rfl) ?_
  refine s_part 10 rfl (fun h1 => ?_) (fun h1 => ?_)
  · -- yes: (errN (okB lf ks vs) : Int) ≠ 0
    have hok := no_of h1
    refine s_skip rfl rfl rfl ?_
    refine s_skip rfl rfl rfl ?_
    refine s_skip rfl rfl rfl ?_
    refine s_skip rfl rfl rfl ?_
    refine s_do rfl rfl rfl (d_pick_t rfl rfl rfl) ?_
    refine s_end ?_
    refine k_true rfl ?_
    refine k_seq ?_
    refine s_region ?_
    refine s_do rfl rfl rfl (d_build rfl rfl (out := [.bool false, .slice none 0 0, .slice none 0 0]) (by kernel_rfl)) ?_
    refine s_do rfl rfl rfl (d_build rfl rfl (out := [.bool false, .slice none 0 0, .slice none 0 0]) (by kernel_rfl)) ?_
    refine s_put rfl rfl (p_store rfl rfl rfl (vs := [.bool false, .slice none 0 0, .slice none 0 0]) rfl (by simp [Value.oneCell']) (by kernel_rfl) (((B2.ext0 x3).ext0 x4)) (by simp) (out := [.bool false, .slice none 0 0, .slice none 0 0]) rfl) ?_
    rintro w5 ⟨B5, x5, t5⟩
    refine s_put rfl rfl (p_store rfl rfl rfl (vs := [.bool false, .slice none 0 0, .slice none 0 0]) rfl (by simp [Value.oneCell']) (by kernel_rfl) (((B3.ext0 x4).ext x5 (show ¬ (b3 = b2) by omega))) (by simp) (out := [.bool false, .slice none 0 0, .slice none 0 0]) rfl) ?_
    rintro w6 ⟨B6, x6, t6⟩
    refine s_do rfl rfl rfl (d_assign rfl rfl) ?_
    refine s_end ?_
    refine k_ret ?_
    refine doneL rfl [.agg #[.bool false, .slice none 0 0, .slice none 0 0], .agg #[.bool false, .slice none 0 0, .slice none 0 0], .int .i64 22] ⟨⟨_, _, rfl, run_loadBlk (by kernel_rfl) ((B5.ext x6 (show ¬ (b2 = b3) by omega))) (vs := [.bool false, .slice none 0 0, .slice none 0 0]) rfl⟩, ⟨⟨_, _, rfl, run_loadBlk (by kernel_rfl) (B6) (vs := [.bool false, .slice none 0 0, .slice none 0 0]) rfl⟩, ⟨rfl, trivial⟩⟩⟩ (v := .tuple #[.agg #[.bool false, .slice none 0 0, .slice none 0 0], .agg #[.bool false, .slice none 0 0, .slice none 0 0], .int .i64 22]) rfl ?_
    have X := (((((((Ext.refl No w).trans x1).trans x2).trans x3).trans x4).trans_new x5 (fun i hi => by subst hi; omega)).trans_new x6 (fun i hi => by subst hi; omega))
    have e : splitN lf ks vs = (nilT, nilT, 22) := by rw [splitN, if_neg]; rintro ⟨a1, a2⟩; first | omega | (rw [hok] at a1; cases a1)
    rw [e]
    exact ⟨_, _, rfl, ResN.zero _ _, ResN.zero _ _, Ap2.zero, X⟩
  · -- no: (errN (okB lf ks vs) : Int) ≠ 0
    have hok := ok_of h1
    obtain ⟨p1, p2, p3, p4, p5⟩ := okB_ok hok
    refine s_do rfl rfl rfl (d_field rfl (k := 1) (r := 1) (by kernel_rfl) rfl rfl) ?_
    refine s_do rfl rfl rfl (d_load rfl rfl (by kernel_rfl) (here ((((B1.ext0 x2).ext0 x3).ext0 x4).cel 1 rfl))) ?_
    refine s_do rfl rfl rfl (d_len rfl (z := 1) (by kernel_rfl) rfl) ?_
    refine s_do rfl rfl rfl (d_lss rfl rfl rfl) ?_
    refine s_do rfl rfl rfl (d_pick_f rfl rfl rfl) ?_
    refine s_end ?_
    refine k_dec rfl (fun h2 => ?_) (fun h2 => ?_)
    · -- yes: (ks.length : Int) < 2
      refine k_seq ?_
      refine s_region ?_
      refine s_do rfl rfl rfl (d_build rfl rfl (out := [.bool false, .slice none 0 0, .slice none 0 0]) (by kernel_rfl)) ?_
      refine s_do rfl rfl rfl (d_build rfl rfl (out := [.bool false, .slice none 0 0, .slice none 0 0]) (by kernel_rfl)) ?_
      refine s_put rfl rfl (p_store rfl rfl rfl (vs := [.bool false, .slice none 0 0, .slice none 0 0]) rfl (by simp [Value.oneCell']) (by kernel_rfl) (((B2.ext0 x3).ext0 x4)) (by simp) (out := [.bool false, .slice none 0 0, .slice none 0 0]) rfl) ?_
      rintro w7 ⟨B7, x7, t7⟩
      refine s_put rfl rfl (p_store rfl rfl rfl (vs := [.bool false, .slice none 0 0, .slice none 0 0]) rfl (by simp [Value.oneCell']) (by kernel_rfl) (((B3.ext0 x4).ext x7 (show ¬ (b3 = b2) by omega))) (by simp) (out := [.bool false, .slice none 0 0, .slice none 0 0]) rfl) ?_
      rintro w8 ⟨B8, x8, t8⟩
      refine s_do rfl rfl rfl (d_assign rfl rfl) ?_
      refine s_end ?_
      refine k_ret ?_
      refine doneL rfl [.agg #[.bool false, .slice none 0 0, .slice none 0 0], .agg #[.bool false, .slice none 0 0, .slice none 0 0], .int .i64 22] ⟨⟨_, _, rfl, run_loadBlk (by kernel_rfl) ((B7.ext x8 (show ¬ (b2 = b3) by omega))) (vs := [.bool false, .slice none 0 0, .slice none 0 0]) rfl⟩, ⟨⟨_, _, rfl, run_loadBlk (by kernel_rfl) (B8) (vs := [.bool false, .slice none 0 0, .slice none 0 0]) rfl⟩, ⟨rfl, trivial⟩⟩⟩ (v := .tuple #[.agg #[.bool false, .slice none 0 0, .slice none 0 0], .agg #[.bool false, .slice none 0 0, .slice none 0 0], .int .i64 22]) rfl ?_
      have X := (((((((Ext.refl No w).trans x1).trans x2).trans x3).trans x4).trans_new x7 (fun i hi => by subst hi; omega)).trans_new x8 (fun i hi => by subst hi; omega))
      have e : splitN lf ks vs = (nilT, nilT, 22) := by rw [splitN, if_neg]; rintro ⟨a1, a2⟩; first | omega | (rw [hok] at a1; cases a1)
      rw [e]
      exact ⟨_, _, rfl, ResN.zero _ _, ResN.zero _ _, Ap2.zero, X⟩
    · -- no: (ks.length : Int) < 2
      refine k_skip ?_
      refine k_seq ?_
      refine s_region ?_
      refine s_do rfl rfl rfl (d_loadAgg rfl rfl (vs := [.bool lf, .slice ka ks.length kc, .slice va vs.length vc]) (by kernel_rfl) (here ((((B1.ext0 x2).ext0 x3).ext0 x4).part 0 3 _ rfl))) ?_
      refine s_call rfl rfl rfl rfl rfl (fun w => Try.call34 _ w) (halves_c lf _ _ ks vs _ ((((hk.ext0 x1).ext0 x2).ext0 x3).ext0 x4) ((((hv.ext0 x1).ext0 x2).ext0 x3).ext0 x4) (by first | omega | (simp <;> omega)) (by first | omega | (simp <;> omega))) ?_
      rintro _ w9 ⟨_, _, rfl, ⟨ga9, ca9, gb9, cb9, rfl, Oa9, Ob9, Ap9⟩, ⟨gc9, cc9, gd9, cd9, rfl, Oc9, Od9, Aq9⟩, Ax9, x9⟩
      have m9 := x9.size
      obtain ⟨Aac9, Aad9, Abc9, Abd9⟩ := Ax9 _ _ _ _ _ _ rfl rfl
      refine s_do rfl rfl rfl (d_move rfl rfl) ?_
      refine s_do rfl rfl rfl (d_extract rfl rfl rfl) ?_
      refine s_do rfl rfl rfl (d_extract rfl rfl rfl) ?_
      refine s_go rfl rfl rfl (g_alloc (P := Try.prog) rfl (zs := [.bool false, .slice none 0 0, .slice none 0 0]) (by kernel_rfl)) ?_
      rintro _ w10 ⟨b10, rfl, s10, t10, B10, x10⟩
      refine s_go rfl rfl rfl (g_alloc (P := Try.prog) rfl (zs := [.bool false, .slice none 0 0, .slice none 0 0]) (by kernel_rfl)) ?_
      rintro _ w11 ⟨b11, rfl, s11, t11, B11, x11⟩
      refine s_put rfl rfl (p_store rfl rfl rfl (vs := [.bool lf, .slice ga9 ((ks.take ((ks.length + 1) / 2)).length) ca9, .slice gb9 ((vs.take ((ks.length + 1) / 2)).length) cb9]) rfl (by simp [Value.oneCell']) (by kernel_rfl) ((B10.ext0 x11)) (by simp) (out := [.bool lf, .slice ga9 ((ks.take ((ks.length + 1) / 2)).length) ca9, .slice gb9 ((vs.take ((ks.length + 1) / 2)).length) cb9]) rfl) ?_
      rintro w12 ⟨B12, x12, t12⟩
      refine s_put rfl rfl (p_store rfl rfl rfl (vs := [.bool lf, .slice gc9 ((ks.drop ((ks.length + 1) / 2)).length) cc9, .slice gd9 ((vs.drop ((ks.length + 1) / 2)).length) cd9]) rfl (by simp [Value.oneCell']) (by kernel_rfl) ((B11.ext x12 (show ¬ (b11 = b10) by omega))) (by simp) (out := [.bool lf, .slice gc9 ((ks.drop ((ks.length + 1) / 2)).length) cc9, .slice gd9 ((vs.drop ((ks.length + 1) / 2)).length) cd9]) rfl) ?_
      rintro w13 ⟨B13, x13, t13⟩
      refine s_end ?_
      refine k_seq ?_
      refine a_region (Ext (fun i => i = b2 ∨ i = b3) w13) 5 rfl (by kernel_rfl) (fun w14 x14 z14 => ?_)
      refine a_do 0 rfl (by kernel_rfl) (by kernel_rfl) (by kernel_rfl) rfl rfl rfl (d_loadAgg rfl rfl (vs := [.bool lf, .slice ga9 ((ks.take ((ks.length + 1) / 2)).length) ca9, .slice gb9 ((vs.take ((ks.length + 1) / 2)).length) cb9]) (by kernel_rfl) (fun _ hx => ((B12.ext x13 (show ¬ (b10 = b11) by omega)).ext hx (show ¬ (b10 = b2 ∨ b10 = b3) by omega)).part 0 3 _ rfl)) ((Ext.refl (fun i => i = b2 ∨ i = b3) w13).trans x14.no) ?_
      refine a_do 1 rfl (by kernel_rfl) (by kernel_rfl) (by kernel_rfl) rfl rfl rfl (d_loadAgg rfl rfl (vs := [.bool lf, .slice gc9 ((ks.drop ((ks.length + 1) / 2)).length) cc9, .slice gd9 ((vs.drop ((ks.length + 1) / 2)).length) cd9]) (by kernel_rfl) (fun _ hx => (B13.ext hx (show ¬ (b11 = b2 ∨ b11 = b3) by omega)).part 0 3 _ rfl)) ((Ext.refl (fun i => i = b2 ∨ i = b3) w13).trans x14.no) ?_
      refine a_all [2] (by kernel_rfl) (by simp) ?_
      refine all1 ?_
      refine o_put rfl rfl rfl (p_store rfl rfl rfl (vs := [.bool lf, .slice ga9 ((ks.take ((ks.length + 1) / 2)).length) ca9, .slice gb9 ((vs.take ((ks.length + 1) / 2)).length) cb9]) rfl (by simp [Value.oneCell']) (by kernel_rfl) (((((((((B2.ext0 x3).ext0 x4).ext0 x9).ext0 x10).ext0 x11).ext x12 (show ¬ (b2 = b10) by omega)).ext x13 (show ¬ (b2 = b11) by omega)).ext0 x14)) (by simp) (out := [.bool lf, .slice ga9 ((ks.take ((ks.length + 1) / 2)).length) ca9, .slice gb9 ((vs.take ((ks.length + 1) / 2)).length) cb9]) rfl) ?_
      rintro w15 ⟨B15, x15, t15⟩
      refine a_and (((Ext.refl (fun i => i = b2 ∨ i = b3) w13).trans x14.no).trans (x15.mono fun i _ q => by first | exact .inl q | exact .inr q)) ?_
      refine a_all [3] (by kernel_rfl) (by simp) ?_
      refine all1 ?_
      refine o_put rfl rfl rfl (p_store rfl rfl rfl (vs := [.bool lf, .slice gc9 ((ks.drop ((ks.length + 1) / 2)).length) cc9, .slice gd9 ((vs.drop ((ks.length + 1) / 2)).length) cd9]) rfl (by simp [Value.oneCell']) (by kernel_rfl) (((((((((B3.ext0 x4).ext0 x9).ext0 x10).ext0 x11).ext x12 (show ¬ (b3 = b10) by omega)).ext x13 (show ¬ (b3 = b11) by omega)).ext0 x14).ext x15 (show ¬ (b3 = b2) by omega))) (by simp) (out := [.bool lf, .slice gc9 ((ks.drop ((ks.length + 1) / 2)).length) cc9, .slice gd9 ((vs.drop ((ks.length + 1) / 2)).length) cd9]) rfl) ?_
      rintro w16 ⟨B16, x16, t16⟩
      refine a_and ((((Ext.refl (fun i => i = b2 ∨ i = b3) w13).trans x14.no).trans (x15.mono fun i _ q => by first | exact .inl q | exact .inr q)).trans (x16.mono fun i _ q => by first | exact .inl q | exact .inr q)) ?_
      refine a_do 4 rfl (by kernel_rfl) (by kernel_rfl) (by kernel_rfl) rfl rfl rfl (d_assign rfl rfl) ((((Ext.refl (fun i => i = b2 ∨ i = b3) w13).trans x14.no).trans (x15.mono fun i _ q => by first | exact .inl q | exact .inr q)).trans (x16.mono fun i _ q => by first | exact .inl q | exact .inr q)) ?_
      refine a_done (by kernel_rfl) ?_
      refine k_ret ?_
      refine doneL rfl [.agg #[.bool lf, .slice ga9 ((ks.take ((ks.length + 1) / 2)).length) ca9, .slice gb9 ((vs.take ((ks.length + 1) / 2)).length) cb9], .agg #[.bool lf, .slice gc9 ((ks.drop ((ks.length + 1) / 2)).length) cc9, .slice gd9 ((vs.drop ((ks.length + 1) / 2)).length) cd9], .int .i64 0] ⟨⟨_, _, rfl, run_loadBlk (by kernel_rfl) ((B15.ext x16 (show ¬ (b2 = b3) by omega))) (vs := [.bool lf, .slice ga9 ((ks.take ((ks.length + 1) / 2)).length) ca9, .slice gb9 ((vs.take ((ks.length + 1) / 2)).length) cb9]) rfl⟩, ⟨⟨_, _, rfl, run_loadBlk (by kernel_rfl) (B16) (vs := [.bool lf, .slice gc9 ((ks.drop ((ks.length + 1) / 2)).length) cc9, .slice gd9 ((vs.drop ((ks.length + 1) / 2)).length) cd9]) rfl⟩, ⟨rfl, trivial⟩⟩⟩ (v := .tuple #[.agg #[.bool lf, .slice ga9 ((ks.take ((ks.length + 1) / 2)).length) ca9, .slice gb9 ((vs.take ((ks.length + 1) / 2)).length) cb9], .agg #[.bool lf, .slice gc9 ((ks.drop ((ks.length + 1) / 2)).length) cc9, .slice gd9 ((vs.drop ((ks.length + 1) / 2)).length) cd9], .int .i64 0]) rfl ?_
      have X := (((((((((((((Ext.refl No w).trans x1).trans x2).trans x3).trans x4).trans x9).trans x10).trans x11).trans_new x12 (fun i hi => by subst hi; omega)).trans_new x13 (fun i hi => by subst hi; omega)).trans x14).trans_new x15 (fun i hi => by subst hi; omega)).trans_new x16 (fun i hi => by subst hi; omega))
      have e : splitN lf ks vs = ((lf, ks.take ((ks.length + 1) / 2), vs.take ((ks.length + 1) / 2)), (lf, ks.drop ((ks.length + 1) / 2), vs.drop ((ks.length + 1) / 2)), 0) := by rw [splitN, if_pos ⟨hok, by omega⟩]
      rw [e]
      exact ⟨_, _, rfl, (ResN.mk ((((((((Oa9.ext0 x10).ext0 x11).extb x12 (own_ne Oa9 (by omega))).extb x13 (own_ne Oa9 (by omega))).ext0 x14).extb x15 (own_ne Oa9 (by omega))).extb x16 (own_ne Oa9 (by omega))).base (by omega)) ((((((((Ob9.ext0 x10).ext0 x11).extb x12 (own_ne Ob9 (by omega))).extb x13 (own_ne Ob9 (by omega))).ext0 x14).extb x15 (own_ne Ob9 (by omega))).extb x16 (own_ne Ob9 (by omega))).base (by omega)) Ap9), (ResN.mk ((((((((Oc9.ext0 x10).ext0 x11).extb x12 (own_ne Oc9 (by omega))).extb x13 (own_ne Oc9 (by omega))).ext0 x14).extb x15 (own_ne Oc9 (by omega))).extb x16 (own_ne Oc9 (by omega))).base (by omega)) ((((((((Od9.ext0 x10).ext0 x11).extb x12 (own_ne Od9 (by omega))).extb x13 (own_ne Od9 (by omega))).ext0 x14).extb x15 (own_ne Od9 (by omega))).extb x16 (own_ne Od9 (by omega))).base (by omega)) Aq9), (Ap2.mk Aac9 Aad9 Abc9 Abd9), X⟩

theorem rsplit_c (lf : Bool) (kv vv : Value) (ks vs : List Int) (w : World) (hk : RdI kv ks w) (hv : RdI vv vs w) :
    Calls Try.prog 24 #[.agg #[.bool lf, kv, vv]] w (Ret fun v w' => ∃ u u2, v = .tuple #[u, u2, .int .i64 (splitN lf ks vs).2.2] ∧ ResN w.heap.size (splitN lf ks vs).1.1 (splitN lf ks vs).1.2.1 (splitN lf ks vs).1.2.2 u w' ∧ ResN w.heap.size (splitN lf ks vs).2.1.1 (splitN lf ks vs).2.1.2.1 (splitN lf ks vs).2.1.2.2 u2 w' ∧ Ap2 u u2 ∧ Ext No w w') := by
  have hk0 := hk; have hv0 := hv
  obtain ⟨ka, kc, rfl, hkc, hkm, hc⟩ := hk0.opened
  obtain ⟨va, vc, rfl, hvc, hvm, hd⟩ := hv0.opened
  refine enter Try.func24 rfl 27 Try.ntmps24 rfl ?_
  refine k_seq ?_
  refine s_region ?_
  refine s_go rfl rfl rfl (g_box rfl rfl rfl) ?_
  rintro _ w1 ⟨b1, rfl, s1, t1, B1, x1⟩
  refine s_go rfl rfl rfl (g_alloc (P := Try.prog) rfl (zs := [.bool false, .slice none 0 0, .slice none 0 0]) (by kernel_rfl)) ?_
  rintro _ w2 ⟨b2, rfl, s2, t2, B2, x2⟩
  refine s_go rfl rfl rfl (g_alloc (P := Try.prog) rfl (zs := [.bool false, .slice none 0 0, .slice none 0 0]) (by kernel_rfl)) ?_
  rintro _ w3 ⟨b3, rfl, s3, t3, B3, x3⟩
  refine s_do rfl rfl rfl (d_assign rfl rfl) ?_
  refine s_end ?_
  refine k_seq ?_
  refine s_region ?_
  refine s_do rfl rfl rfl (d_loadAgg rfl rfl (vs := [.bool lf, .slice ka ks.length kc, .slice va vs.length vc]) (by kernel_rfl) (here (((B1.ext0 x2).ext0 x3).part 0 3 _ rfl))) ?_
  refine s_call rfl rfl rfl rfl rfl (fun w => Try.call11 _ w) (may_c lf _ _ ks vs _ (((hk.ext0 x1).ext0 x2).ext0 x3) (((hv.ext0 x1).ext0 x2).ext0 x3)) ?_
  rintro _ w4 ⟨rfl, x4⟩
  have m4 := x4.size
  refine s_do rfl rfl rfl (d_assign rfl rfl) ?_
  refine s_end ?_
  refine k_seq ?_
  refine k_seq ?_
  refine s_region ?_
  refine s_do rfl rfl rfl (d_move rfl rfl) ?_
  refine s_do rfl rfl rfl (d_not rfl rfl) ?_
  refine s_do rfl rfl rfl (d_move rfl rfl) ?_
  refine s_part_b 12 rfl (fun h1 => ?_) (fun h1 => ?_)
  · -- yes: (!okB lf ks vs)
    have hok : okB lf ks vs = false := by simpa using h1
    refine s_skip rfl rfl rfl ?_
    refine s_skip rfl rfl rfl ?_
    refine s_skip rfl rfl rfl ?_
    refine s_skip rfl rfl rfl ?_
    refine s_do rfl rfl rfl (d_pick_t rfl rfl rfl) ?_
    refine s_end ?_
    refine k_true rfl ?_
    refine k_seq ?_
    refine s_region ?_
    refine s_do rfl rfl rfl (d_build rfl rfl (out := [.bool false, .slice none 0 0, .slice none 0 0]) (by kernel_rfl)) ?_
    refine s_do rfl rfl rfl (d_build rfl rfl (out := [.bool false, .slice none 0 0, .slice none 0 0]) (by kernel_rfl)) ?_
    refine s_put rfl rfl (p_store rfl rfl rfl (vs := [.bool false, .slice none 0 0, .slice none 0 0]) rfl (by simp [Value.oneCell']) (by kernel_rfl) (((B2.ext0 x3).ext0 x4)) (by simp) (out := [.bool false, .slice none 0 0, .slice none 0 0]) rfl) ?_
    rintro w5 ⟨B5, x5, t5⟩
    refine s_put rfl rfl (p_store rfl rfl rfl (vs := [.bool false, .slice none 0 0, .slice none 0 0]) rfl (by simp [Value.oneCell']) (by kernel_rfl) (((B3.ext0 x4).ext x5 (show ¬ (b3 = b2) by omega))) (by simp) (out := [.bool false, .slice none 0 0, .slice none 0 0]) rfl) ?_
    rintro w6 ⟨B6, x6, t6⟩
    refine s_do rfl rfl rfl (d_assign rfl rfl) ?_
    refine s_end ?_
    refine k_ret ?_
    refine doneL rfl [.agg #[.bool false, .slice none 0 0, .slice none 0 0], .agg #[.bool false, .slice none 0 0, .slice none 0 0], .int .i64 22] ⟨⟨_, _, rfl, run_loadBlk (by kernel_rfl) ((B5.ext x6 (show ¬ (b2 = b3) by omega))) (vs := [.bool false, .slice none 0 0, .slice none 0 0]) rfl⟩, ⟨⟨_, _, rfl, run_loadBlk (by kernel_rfl) (B6) (vs := [.bool false, .slice none 0 0, .slice none 0 0]) rfl⟩, ⟨rfl, trivial⟩⟩⟩ (v := .tuple #[.agg #[.bool false, .slice none 0 0, .slice none 0 0], .agg #[.bool false, .slice none 0 0, .slice none 0 0], .int .i64 22]) rfl ?_
    have X := (((((((Ext.refl No w).trans x1).trans x2).trans x3).trans x4).trans_new x5 (fun i hi => by subst hi; omega)).trans_new x6 (fun i hi => by subst hi; omega))
    have e : splitN lf ks vs = (nilT, nilT, 22) := by rw [splitN, if_neg]; rintro ⟨a1, a2⟩; first | omega | (rw [hok] at a1; cases a1)
    rw [e]
    exact ⟨_, _, rfl, ResN.zero _ _, ResN.zero _ _, Ap2.zero, X⟩
  · -- no: (!okB lf ks vs)
    have hok : okB lf ks vs = true := by simpa using h1
    obtain ⟨p1, p2, p3, p4, p5⟩ := okB_ok hok
    refine s_do rfl rfl rfl (d_field rfl (k := 1) (r := 1) (by kernel_rfl) rfl rfl) ?_
    refine s_do rfl rfl rfl (d_load rfl rfl (by kernel_rfl) (here ((((B1.ext0 x2).ext0 x3).ext0 x4).cel 1 rfl))) ?_
    refine s_do rfl rfl rfl (d_len rfl (z := 1) (by kernel_rfl) rfl) ?_
    refine s_do rfl rfl rfl (d_lss rfl rfl rfl) ?_
    refine s_do rfl rfl rfl (d_pick_f rfl rfl rfl) ?_
    refine s_end ?_
    refine k_dec rfl (fun h2 => ?_) (fun h2 => ?_)
    · -- yes: (ks.length : Int) < 2
      refine k_seq ?_
      refine s_region ?_
      refine s_do rfl rfl rfl (d_build rfl rfl (out := [.bool false, .slice none 0 0, .slice none 0 0]) (by kernel_rfl)) ?_
      refine s_do rfl rfl rfl (d_build rfl rfl (out := [.bool false, .slice none 0 0, .slice none 0 0]) (by kernel_rfl)) ?_
      refine s_put rfl rfl (p_store rfl rfl rfl (vs := [.bool false, .slice none 0 0, .slice none 0 0]) rfl (by simp [Value.oneCell']) (by kernel_rfl) (((B2.ext0 x3).ext0 x4)) (by simp) (out := [.bool false, .slice none 0 0, .slice none 0 0]) rfl) ?_
      rintro w7 ⟨B7, x7, t7⟩
      refine s_put rfl rfl (p_store rfl rfl rfl (vs := [.bool false, .slice none 0 0, .slice none 0 0]) rfl (by simp [Value.oneCell']) (by kernel_rfl) (((B3.ext0 x4).ext x7 (show ¬ (b3 = b2) by omega))) (by simp) (out := [.bool false, .slice none 0 0, .slice none 0 0]) rfl) ?_
      rintro w8 ⟨B8, x8, t8⟩
      refine s_do rfl rfl rfl (d_assign rfl rfl) ?_
      refine s_end ?_
      refine k_ret ?_
      refine doneL rfl [.agg #[.bool false, .slice none 0 0, .slice none 0 0], .agg #[.bool false, .slice none 0 0, .slice none 0 0], .int .i64 22] ⟨⟨_, _, rfl, run_loadBlk (by kernel_rfl) ((B7.ext x8 (show ¬ (b2 = b3) by omega))) (vs := [.bool false, .slice none 0 0, .slice none 0 0]) rfl⟩, ⟨⟨_, _, rfl, run_loadBlk (by kernel_rfl) (B8) (vs := [.bool false, .slice none 0 0, .slice none 0 0]) rfl⟩, ⟨rfl, trivial⟩⟩⟩ (v := .tuple #[.agg #[.bool false, .slice none 0 0, .slice none 0 0], .agg #[.bool false, .slice none 0 0, .slice none 0 0], .int .i64 22]) rfl ?_
      have X := (((((((Ext.refl No w).trans x1).trans x2).trans x3).trans x4).trans_new x7 (fun i hi => by subst hi; omega)).trans_new x8 (fun i hi => by subst hi; omega))
      have e : splitN lf ks vs = (nilT, nilT, 22) := by rw [splitN, if_neg]; rintro ⟨a1, a2⟩; first | omega | (rw [hok] at a1; cases a1)
      rw [e]
      exact ⟨_, _, rfl, ResN.zero _ _, ResN.zero _ _, Ap2.zero, X⟩
    · -- no: (ks.length : Int) < 2
      refine k_skip ?_
      refine k_seq ?_
      refine s_region ?_
      refine s_do rfl rfl rfl (d_loadAgg rfl rfl (vs := [.bool lf, .slice ka ks.length kc, .slice va vs.length vc]) (by kernel_rfl) (here ((((B1.ext0 x2).ext0 x3).ext0 x4).part 0 3 _ rfl))) ?_
      refine s_call rfl rfl rfl rfl rfl (fun w => Try.call35 _ w) (rhalves_c lf _ _ ks vs _ ((((hk.ext0 x1).ext0 x2).ext0 x3).ext0 x4) ((((hv.ext0 x1).ext0 x2).ext0 x3).ext0 x4) (by first | omega | (simp <;> omega)) (by first | omega | (simp <;> omega))) ?_
      rintro _ w9 ⟨_, _, rfl, ⟨ga9, ca9, gb9, cb9, rfl, Oa9, Ob9, Ap9⟩, ⟨gc9, cc9, gd9, cd9, rfl, Oc9, Od9, Aq9⟩, Ax9, x9⟩
      have m9 := x9.size
      obtain ⟨Aac9, Aad9, Abc9, Abd9⟩ := Ax9 _ _ _ _ _ _ rfl rfl
      refine s_do rfl rfl rfl (d_move rfl rfl) ?_
      refine s_do rfl rfl rfl (d_extract rfl rfl rfl) ?_
      refine s_do rfl rfl rfl (d_extract rfl rfl rfl) ?_
      refine s_go rfl rfl rfl (g_alloc (P := Try.prog) rfl (zs := [.bool false, .slice none 0 0, .slice none 0 0]) (by kernel_rfl)) ?_
      rintro _ w10 ⟨b10, rfl, s10, t10, B10, x10⟩
      refine s_go rfl rfl rfl (g_alloc (P := Try.prog) rfl (zs := [.bool false, .slice none 0 0, .slice none 0 0]) (by kernel_rfl)) ?_
      rintro _ w11 ⟨b11, rfl, s11, t11, B11, x11⟩
      refine s_put rfl rfl (p_store rfl rfl rfl (vs := [.bool lf, .slice ga9 ((ks.take ((ks.length + 1) / 2)).length) ca9, .slice gb9 ((vs.take ((ks.length + 1) / 2)).length) cb9]) rfl (by simp [Value.oneCell']) (by kernel_rfl) ((B10.ext0 x11)) (by simp) (out := [.bool lf, .slice ga9 ((ks.take ((ks.length + 1) / 2)).length) ca9, .slice gb9 ((vs.take ((ks.length + 1) / 2)).length) cb9]) rfl) ?_
      rintro w12 ⟨B12, x12, t12⟩
      refine s_put rfl rfl (p_store rfl rfl rfl (vs := [.bool lf, .slice gc9 ((ks.drop ((ks.length + 1) / 2)).length) cc9, .slice gd9 ((vs.drop ((ks.length + 1) / 2)).length) cd9]) rfl (by simp [Value.oneCell']) (by kernel_rfl) ((B11.ext x12 (show ¬ (b11 = b10) by omega))) (by simp) (out := [.bool lf, .slice gc9 ((ks.drop ((ks.length + 1) / 2)).length) cc9, .slice gd9 ((vs.drop ((ks.length + 1) / 2)).length) cd9]) rfl) ?_
      rintro w13 ⟨B13, x13, t13⟩
      refine s_end ?_
      refine k_seq ?_
      refine a_region (Ext (fun i => i = b2 ∨ i = b3) w13) 5 rfl (by kernel_rfl) (fun w14 x14 z14 => ?_)
      refine a_do 0 rfl (by kernel_rfl) (by kernel_rfl) (by kernel_rfl) rfl rfl rfl (d_loadAgg rfl rfl (vs := [.bool lf, .slice ga9 ((ks.take ((ks.length + 1) / 2)).length) ca9, .slice gb9 ((vs.take ((ks.length + 1) / 2)).length) cb9]) (by kernel_rfl) (fun _ hx => ((B12.ext x13 (show ¬ (b10 = b11) by omega)).ext hx (show ¬ (b10 = b2 ∨ b10 = b3) by omega)).part 0 3 _ rfl)) ((Ext.refl (fun i => i = b2 ∨ i = b3) w13).trans x14.no) ?_
      refine a_do 1 rfl (by kernel_rfl) (by kernel_rfl) (by kernel_rfl) rfl rfl rfl (d_loadAgg rfl rfl (vs := [.bool lf, .slice gc9 ((ks.drop ((ks.length + 1) / 2)).length) cc9, .slice gd9 ((vs.drop ((ks.length + 1) / 2)).length) cd9]) (by kernel_rfl) (fun _ hx => (B13.ext hx (show ¬ (b11 = b2 ∨ b11 = b3) by omega)).part 0 3 _ rfl)) ((Ext.refl (fun i => i = b2 ∨ i = b3) w13).trans x14.no) ?_
      refine a_all [2] (by kernel_rfl) (by simp) ?_
      refine all1 ?_
      refine o_put rfl rfl rfl (p_store rfl rfl rfl (vs := [.bool lf, .slice ga9 ((ks.take ((ks.length + 1) / 2)).length) ca9, .slice gb9 ((vs.take ((ks.length + 1) / 2)).length) cb9]) rfl (by simp [Value.oneCell']) (by kernel_rfl) (((((((((B2.ext0 x3).ext0 x4).ext0 x9).ext0 x10).ext0 x11).ext x12 (show ¬ (b2 = b10) by omega)).ext x13 (show ¬ (b2 = b11) by omega)).ext0 x14)) (by simp) (out := [.bool lf, .slice ga9 ((ks.take ((ks.length + 1) / 2)).length) ca9, .slice gb9 ((vs.take ((ks.length + 1) / 2)).length) cb9]) rfl) ?_
      rintro w15 ⟨B15, x15, t15⟩
      refine a_and (((Ext.refl (fun i => i = b2 ∨ i = b3) w13).trans x14.no).trans (x15.mono fun i _ q => by first | exact .inl q | exact .inr q)) ?_
      refine a_all [3] (by kernel_rfl) (by simp) ?_
      refine all1 ?_
      refine o_put rfl rfl rfl (p_store rfl rfl rfl (vs := [.bool lf, .slice gc9 ((ks.drop ((ks.length + 1) / 2)).length) cc9, .slice gd9 ((vs.drop ((ks.length + 1) / 2)).length) cd9]) rfl (by simp [Value.oneCell']) (by kernel_rfl) (((((((((B3.ext0 x4).ext0 x9).ext0 x10).ext0 x11).ext x12 (show ¬ (b3 = b10) by omega)).ext x13 (show ¬ (b3 = b11) by omega)).ext0 x14).ext x15 (show ¬ (b3 = b2) by omega))) (by simp) (out := [.bool lf, .slice gc9 ((ks.drop ((ks.length + 1) / 2)).length) cc9, .slice gd9 ((vs.drop ((ks.length + 1) / 2)).length) cd9]) rfl) ?_
      rintro w16 ⟨B16, x16, t16⟩
      refine a_and ((((Ext.refl (fun i => i = b2 ∨ i = b3) w13).trans x14.no).trans (x15.mono fun i _ q => by first | exact .inl q | exact .inr q)).trans (x16.mono fun i _ q => by first | exact .inl q | exact .inr q)) ?_
      refine a_do 4 rfl (by kernel_rfl) (by kernel_rfl) (by kernel_rfl) rfl rfl rfl (d_assign rfl rfl) ((((Ext.refl (fun i => i = b2 ∨ i = b3) w13).trans x14.no).trans (x15.mono fun i _ q => by first | exact .inl q | exact .inr q)).trans (x16.mono fun i _ q => by first | exact .inl q | exact .inr q)) ?_
      refine a_done (by kernel_rfl) ?_
      refine k_ret ?_
      refine doneL rfl [.agg #[.bool lf, .slice ga9 ((ks.take ((ks.length + 1) / 2)).length) ca9, .slice gb9 ((vs.take ((ks.length + 1) / 2)).length) cb9], .agg #[.bool lf, .slice gc9 ((ks.drop ((ks.length + 1) / 2)).length) cc9, .slice gd9 ((vs.drop ((ks.length + 1) / 2)).length) cd9], .int .i64 0] ⟨⟨_, _, rfl, run_loadBlk (by kernel_rfl) ((B15.ext x16 (show ¬ (b2 = b3) by omega))) (vs := [.bool lf, .slice ga9 ((ks.take ((ks.length + 1) / 2)).length) ca9, .slice gb9 ((vs.take ((ks.length + 1) / 2)).length) cb9]) rfl⟩, ⟨⟨_, _, rfl, run_loadBlk (by kernel_rfl) (B16) (vs := [.bool lf, .slice gc9 ((ks.drop ((ks.length + 1) / 2)).length) cc9, .slice gd9 ((vs.drop ((ks.length + 1) / 2)).length) cd9]) rfl⟩, ⟨rfl, trivial⟩⟩⟩ (v := .tuple #[.agg #[.bool lf, .slice ga9 ((ks.take ((ks.length + 1) / 2)).length) ca9, .slice gb9 ((vs.take ((ks.length + 1) / 2)).length) cb9], .agg #[.bool lf, .slice gc9 ((ks.drop ((ks.length + 1) / 2)).length) cc9, .slice gd9 ((vs.drop ((ks.length + 1) / 2)).length) cd9], .int .i64 0]) rfl ?_
      have X := (((((((((((((Ext.refl No w).trans x1).trans x2).trans x3).trans x4).trans x9).trans x10).trans x11).trans_new x12 (fun i hi => by subst hi; omega)).trans_new x13 (fun i hi => by subst hi; omega)).trans x14).trans_new x15 (fun i hi => by subst hi; omega)).trans_new x16 (fun i hi => by subst hi; omega))
      have e : splitN lf ks vs = ((lf, ks.take ((ks.length + 1) / 2), vs.take ((ks.length + 1) / 2)), (lf, ks.drop ((ks.length + 1) / 2), vs.drop ((ks.length + 1) / 2)), 0) := by rw [splitN, if_pos ⟨hok, by omega⟩]
      rw [e]
      exact ⟨_, _, rfl, (ResN.mk ((((((((Oa9.ext0 x10).ext0 x11).extb x12 (own_ne Oa9 (by omega))).extb x13 (own_ne Oa9 (by omega))).ext0 x14).extb x15 (own_ne Oa9 (by omega))).extb x16 (own_ne Oa9 (by omega))).base (by omega)) ((((((((Ob9.ext0 x10).ext0 x11).extb x12 (own_ne Ob9 (by omega))).extb x13 (own_ne Ob9 (by omega))).ext0 x14).extb x15 (own_ne Ob9 (by omega))).extb x16 (own_ne Ob9 (by omega))).base (by omega)) Ap9), (ResN.mk ((((((((Oc9.ext0 x10).ext0 x11).extb x12 (own_ne Oc9 (by omega))).extb x13 (own_ne Oc9 (by omega))).ext0 x14).extb x15 (own_ne Oc9 (by omega))).extb x16 (own_ne Oc9 (by omega))).base (by omega)) ((((((((Od9.ext0 x10).ext0 x11).extb x12 (own_ne Od9 (by omega))).extb x13 (own_ne Od9 (by omega))).ext0 x14).extb x15 (own_ne Od9 (by omega))).extb x16 (own_ne Od9 (by omega))).base (by omega)) Aq9), (Ap2.mk Aac9 Aad9 Abc9 Abd9), X⟩

theorem beside_c (lf lf2 : Bool) (kv vv kv2 vv2 : Value) (ks vs ks2 vs2 : List Int) (w : World) (hk : RdI kv ks w) (hv : RdI vv vs w) (hk2 : RdI kv2 ks2 w) (hv2 : RdI vv2 vs2 w) :
    Calls Try.prog 36 #[.agg #[.bool lf, kv, vv], .agg #[.bool lf2, kv2, vv2]] w (Ret fun v w' => v = .bool (besB lf ks vs lf2 ks2 vs2) ∧ Ext No w w') := by
  have hk0 := hk; have hv0 := hv
  obtain ⟨ka, kc, rfl, hkc, hkm, hc⟩ := hk0.opened
  obtain ⟨va, vc, rfl, hvc, hvm, hd⟩ := hv0.opened
  have hk02 := hk2; have hv02 := hv2
  obtain ⟨ka2, kc2, rfl, hkc2, hkm2, hc2⟩ := hk02.opened
  obtain ⟨va2, vc2, rfl, hvc2, hvm2, hd2⟩ := hv02.opened
  refine enter Try.func36 rfl 45 Try.ntmps36 rfl ?_
  refine k_seq ?_
  refine s_region ?_
  refine s_go rfl rfl rfl (g_box rfl rfl rfl) ?_
  rintro _ w1 ⟨b1, rfl, s1, t1, B1, x1⟩
  refine s_go rfl rfl rfl (g_box rfl rfl rfl) ?_
  rintro _ w2 ⟨b2, rfl, s2, t2, B2, x2⟩
  refine s_do rfl rfl rfl (d_assign rfl rfl) ?_
  refine s_end ?_
  refine k_seq ?_
  refine k_seq ?_
  refine s_region ?_
  refine s_do rfl rfl rfl (d_loadAgg rfl rfl (vs := [.bool lf, .slice ka ks.length kc, .slice va vs.length vc]) (by kernel_rfl) (here ((B1.ext0 x2).part 0 3 _ rfl))) ?_
  refine s_call rfl rfl rfl rfl rfl (fun w => Try.call12 _ w) (check_c lf _ _ ks vs _ ((hk.ext0 x1).ext0 x2) ((hv.ext0 x1).ext0 x2)) ?_
  rintro _ w3 ⟨rfl, x3⟩
  have m3 := x3.size
  refine s_do rfl rfl rfl (d_neq rfl rfl rfl) ?_
  refine s_do rfl rfl rfl (d_move rfl rfl) ?_
  refine s_part 8 rfl (fun h1 => ?_) (fun h1 => ?_)
  · -- yes: (errN (okB lf ks vs) : Int) ≠ 0
    refine s_skip rfl rfl rfl ?_
    refine s_skip rfl rfl rfl ?_
    refine s_skip rfl rfl rfl ?_
    refine s_do rfl rfl rfl (d_pick_t rfl rfl rfl) ?_
    refine s_do rfl rfl rfl (d_move rfl rfl) ?_
    refine s_skip rfl rfl rfl ?_
    refine s_skip rfl rfl rfl ?_
    refine s_skip rfl rfl rfl ?_
    refine s_skip rfl rfl rfl ?_
    refine s_skip rfl rfl rfl ?_
    refine s_do rfl rfl rfl (d_pick_t rfl rfl rfl) ?_
    refine s_end ?_
    refine k_true rfl ?_
    refine k_seq ?_
    refine s_region ?_
    refine s_do rfl rfl rfl (d_assign rfl rfl) ?_
    refine s_end ?_
    refine k_ret ?_
    refine doneL rfl [.bool false] ⟨rfl, trivial⟩ (v := .bool false) rfl ?_
    have X := ((((Ext.refl No w).trans x1).trans x2).trans x3)
    refine ⟨congrArg Value.bool (bes_f ?_).symm, X⟩
    rintro ⟨a1, a2, a3, a4⟩
    first | (rw [no_of h1] at a1; cases a1; done) | (rw [no_of h2] at a2; cases a2; done) | exact h3 a3
  · -- no: (errN (okB lf ks vs) : Int) ≠ 0
    refine s_do rfl rfl rfl (d_loadAgg rfl rfl (vs := [.bool lf2, .slice ka2 ks2.length kc2, .slice va2 vs2.length vc2]) (by kernel_rfl) (here ((B2.ext0 x3).part 0 3 _ rfl))) ?_
    refine s_call rfl rfl rfl rfl rfl (fun w => Try.call12 _ w) (check_c lf2 _ _ ks2 vs2 _ (((hk2.ext0 x1).ext0 x2).ext0 x3) (((hv2.ext0 x1).ext0 x2).ext0 x3)) ?_
    rintro _ w4 ⟨rfl, x4⟩
    have m4 := x4.size
    refine s_do rfl rfl rfl (d_neq rfl rfl rfl) ?_
    refine s_do rfl rfl rfl (d_pick_f rfl rfl rfl) ?_
    refine s_do rfl rfl rfl (d_move rfl rfl) ?_
    refine s_part 13 rfl (fun h2 => ?_) (fun h2 => ?_)
    · -- yes: (errN (okB lf2 ks2 vs2) : Int) ≠ 0
      refine s_skip rfl rfl rfl ?_
      refine s_skip rfl rfl rfl ?_
      refine s_skip rfl rfl rfl ?_
      refine s_skip rfl rfl rfl ?_
      refine s_skip rfl rfl rfl ?_
      refine s_do rfl rfl rfl (d_pick_t rfl rfl rfl) ?_
      refine s_end ?_
      refine k_true rfl ?_
      refine k_seq ?_
      refine s_region ?_
      refine s_do rfl rfl rfl (d_assign rfl rfl) ?_
      refine s_end ?_
      refine k_ret ?_
      refine doneL rfl [.bool false] ⟨rfl, trivial⟩ (v := .bool false) rfl ?_
      have X := (((((Ext.refl No w).trans x1).trans x2).trans x3).trans x4)
      refine ⟨congrArg Value.bool (bes_f ?_).symm, X⟩
      rintro ⟨a1, a2, a3, a4⟩
      first | (rw [no_of h1] at a1; cases a1; done) | (rw [no_of h2] at a2; cases a2; done) | exact h3 a3
    · -- no: (errN (okB lf2 ks2 vs2) : Int) ≠ 0
      refine s_do rfl rfl rfl (d_field rfl (k := 0) (r := 0) (by kernel_rfl) rfl rfl) ?_
      refine s_do rfl rfl rfl (d_load rfl rfl (by kernel_rfl) (here ((((B1.ext0 x2).ext0 x3).ext0 x4).cel 0 rfl))) ?_
      refine s_do rfl rfl rfl (d_field rfl (k := 0) (r := 0) (by kernel_rfl) rfl rfl) ?_
      refine s_do rfl rfl rfl (d_load rfl rfl (by kernel_rfl) (here (((B2.ext0 x3).ext0 x4).cel 0 rfl))) ?_
      refine s_do rfl rfl rfl (d_neqB rfl (by kernel_rfl) rfl rfl) ?_
      refine s_do rfl rfl rfl (d_pick_f rfl rfl rfl) ?_
      refine s_end ?_
      refine k_dec rfl (fun h3 => ?_) (fun h3 => ?_)
      · -- yes: lf ≠ lf2
        refine k_seq ?_
        refine s_region ?_
        refine s_do rfl rfl rfl (d_assign rfl rfl) ?_
        refine s_end ?_
        refine k_ret ?_
        refine doneL rfl [.bool false] ⟨rfl, trivial⟩ (v := .bool false) rfl ?_
        have X := (((((Ext.refl No w).trans x1).trans x2).trans x3).trans x4)
        refine ⟨congrArg Value.bool (bes_f ?_).symm, X⟩
        rintro ⟨a1, a2, a3, a4⟩
        first | (rw [no_of h1] at a1; cases a1; done) | (rw [no_of h2] at a2; cases a2; done) | exact h3 a3
      · -- no: lf ≠ lf2
        refine k_skip ?_
        refine k_seq ?_
        refine q_region (Ext No w4) (by kernel_rfl) (by kernel_rfl) ((Ext.refl _ _).drew) ?_
        refine q_do rfl rfl rfl (d_field rfl (k := 1) (r := 1) (by kernel_rfl) rfl rfl) ?_
        refine q_do rfl rfl rfl (d_load rfl rfl (by kernel_rfl) (fun _ hx => ((((B1.ext0 x2).ext0 x3).ext0 x4).ext0 hx).cel 1 rfl)) ?_
        refine q_do rfl rfl rfl (d_len rfl (z := 1) (by kernel_rfl) rfl) ?_
        refine q_do rfl rfl rfl (d_eql rfl rfl rfl) ?_
        refine q_do rfl rfl rfl (d_move rfl rfl) ?_
        refine q_part 24 rfl (fun h4 => ?_) (fun h4 => ?_)
        · -- yes: (ks.length : Int) = 0
          refine q_skip rfl rfl rfl ?_
          refine q_skip rfl rfl rfl ?_
          refine q_skip rfl rfl rfl ?_
          refine q_skip rfl rfl rfl ?_
          refine q_do rfl rfl rfl (d_pick_t rfl rfl rfl) ?_
          refine q_do rfl rfl rfl (d_move rfl rfl) ?_
          refine q_skip rfl rfl rfl ?_
          refine q_skip rfl rfl rfl ?_
          refine q_skip rfl rfl rfl ?_
          refine q_skip rfl rfl rfl ?_
          refine q_skip rfl rfl rfl ?_
          refine q_skip rfl rfl rfl ?_
          refine q_skip rfl rfl rfl ?_
          refine q_skip rfl rfl rfl ?_
          refine q_skip rfl rfl rfl ?_
          refine q_skip rfl rfl rfl ?_
          refine q_skip rfl rfl rfl ?_
          refine q_skip rfl rfl rfl ?_
          refine q_skip rfl rfl rfl ?_
          refine q_do rfl rfl rfl (d_pick_t rfl rfl rfl) ?_
          refine q_do rfl rfl rfl (d_assign rfl rfl) ?_
          refine q_end (fun w5 x5 => ?_)
          have m5 := x5.size
          refine k_ret ?_
          refine doneL rfl [.bool true] ⟨rfl, trivial⟩ (v := .bool true) rfl ?_
          have X := ((((((Ext.refl No w).trans x1).trans x2).trans x3).trans x4).trans x5)
          refine ⟨congrArg Value.bool (bes_t ⟨ok_of h1, ok_of h2, by simpa using h3, fun p q hp hq => ?_⟩).symm, X⟩
          have := (List.getElem?_eq_some_iff.1 hp).1; have := (List.getElem?_eq_some_iff.1 hq).1; omega
        · -- no: (ks.length : Int) = 0
          refine q_do rfl rfl rfl (d_field rfl (k := 1) (r := 1) (by kernel_rfl) rfl rfl) ?_
          refine q_do rfl rfl rfl (d_load rfl rfl (by kernel_rfl) (fun _ hx => (((B2.ext0 x3).ext0 x4).ext0 hx).cel 1 rfl)) ?_
          refine q_do rfl rfl rfl (d_len rfl (z := 1) (by kernel_rfl) rfl) ?_
          refine q_do rfl rfl rfl (d_eql rfl rfl rfl) ?_
          refine q_do rfl rfl rfl (d_pick_f rfl rfl rfl) ?_
          refine q_do rfl rfl rfl (d_move rfl rfl) ?_
          refine q_part 30 rfl (fun h5 => ?_) (fun h5 => ?_)
          · -- yes: (ks2.length : Int) = 0
            refine q_skip rfl rfl rfl ?_
            refine q_skip rfl rfl rfl ?_
            refine q_skip rfl rfl rfl ?_
            refine q_skip rfl rfl rfl ?_
            refine q_skip rfl rfl rfl ?_
            refine q_skip rfl rfl rfl ?_
            refine q_skip rfl rfl rfl ?_
            refine q_skip rfl rfl rfl ?_
            refine q_skip rfl rfl rfl ?_
            refine q_skip rfl rfl rfl ?_
            refine q_skip rfl rfl rfl ?_
            refine q_skip rfl rfl rfl ?_
            refine q_skip rfl rfl rfl ?_
            refine q_do rfl rfl rfl (d_pick_t rfl rfl rfl) ?_
            refine q_do rfl rfl rfl (d_assign rfl rfl) ?_
            refine q_end (fun w6 x6 => ?_)
            have m6 := x6.size
            refine k_ret ?_
            refine doneL rfl [.bool true] ⟨rfl, trivial⟩ (v := .bool true) rfl ?_
            have X := ((((((Ext.refl No w).trans x1).trans x2).trans x3).trans x4).trans x6)
            refine ⟨congrArg Value.bool (bes_t ⟨ok_of h1, ok_of h2, by simpa using h3, fun p q hp hq => ?_⟩).symm, X⟩
            have := (List.getElem?_eq_some_iff.1 hp).1; have := (List.getElem?_eq_some_iff.1 hq).1; omega
          · -- no: (ks2.length : Int) = 0
            refine q_do rfl rfl rfl (d_field rfl (k := 1) (r := 1) (by kernel_rfl) rfl rfl) ?_
            refine q_do rfl rfl rfl (d_load rfl rfl (by kernel_rfl) (fun _ hx => ((((B1.ext0 x2).ext0 x3).ext0 x4).ext0 hx).cel 1 rfl)) ?_
            refine q_do rfl rfl rfl (d_field rfl (k := 1) (r := 1) (by kernel_rfl) rfl rfl) ?_
            refine q_do rfl rfl rfl (d_load rfl rfl (by kernel_rfl) (fun _ hx => ((((B1.ext0 x2).ext0 x3).ext0 x4).ext0 hx).cel 1 rfl)) ?_
            refine q_do rfl rfl rfl (d_len rfl (z := 1) (by kernel_rfl) rfl) ?_
            refine q_do rfl rfl rfl (d_sub64 rfl rfl rfl (r := (ks.length : Int) - 1) (by omega) (by omega)) ?_
            obtain ⟨x, hx⟩ : ∃ x, ks[ks.length - 1]? = some x := ⟨_, List.getElem?_eq_getElem (by omega)⟩
            have hat := hc _ _ hx
            refine q_do rfl rfl rfl (d_indexE rfl (z := 1) (j := ks.length - 1) (r := ks.length - 1) (by kernel_rfl) rfl rfl (by omega) (by omega) hat (by omega)) ?_
            refine q_do rfl rfl rfl (d_loadE rfl rfl (by kernel_rfl) (fun _ hx => (((((hat.ext0 x1).ext0 x2).ext0 x3).ext0 x4).ext0 hx))) ?_
            refine q_do rfl rfl rfl (d_field rfl (k := 1) (r := 1) (by kernel_rfl) rfl rfl) ?_
            refine q_do rfl rfl rfl (d_load rfl rfl (by kernel_rfl) (fun _ hx => (((B2.ext0 x3).ext0 x4).ext0 hx).cel 1 rfl)) ?_
            obtain ⟨y, hy⟩ : ∃ x, ks2[0]? = some x := ⟨_, List.getElem?_eq_getElem (by omega)⟩
            have hbt := hc2 _ _ hy
            refine q_do rfl rfl rfl (d_indexE rfl (z := 1) (j := 0) (r := 0) (by kernel_rfl) rfl rfl rfl (by omega) hbt (by omega)) ?_
            refine q_do rfl rfl rfl (d_loadE rfl rfl (by kernel_rfl) (fun _ hx => (((((hbt.ext0 x1).ext0 x2).ext0 x3).ext0 x4).ext0 hx))) ?_
            refine q_do rfl rfl rfl (d_lss rfl rfl rfl) ?_
            refine q_do rfl rfl rfl (d_pick_f rfl rfl rfl) ?_
            refine q_do rfl rfl rfl (d_assign rfl rfl) ?_
            refine q_end (fun w7 x7 => ?_)
            have m7 := x7.size
            refine k_ret ?_
            refine doneL rfl [.bool (decide ((x : Int) < y))] ⟨rfl, trivial⟩ (v := .bool (decide ((x : Int) < y))) rfl ?_
            have X := ((((((Ext.refl No w).trans x1).trans x2).trans x3).trans x4).trans x7)
            refine ⟨congrArg Value.bool ?_, X⟩
            by_cases hxy : x < y
            · rw [decide_eq_true hxy]; exact (bes_t ⟨ok_of h1, ok_of h2, by simpa using h3, fun p q hp hq => by rw [hx] at hp; rw [hy] at hq; cases hp; cases hq; exact hxy⟩).symm
            · rw [decide_eq_false hxy]; exact (bes_f fun ⟨a1, a2, a3, a4⟩ => hxy (a4 _ _ hx hy)).symm

theorem join_c (lf lf2 : Bool) (kv vv kv2 vv2 : Value) (ks vs ks2 vs2 : List Int) (w : World) (hk : RdI kv ks w) (hv : RdI vv vs w) (hk2 : RdI kv2 ks2 w) (hv2 : RdI vv2 vs2 w) :
    Calls Try.prog 25 #[.agg #[.bool lf, kv, vv], .agg #[.bool lf2, kv2, vv2]] w (Ret fun v w' => ∃ u, v = .tuple #[u, .int .i64 (joinN lf ks vs lf2 ks2 vs2).2.2.2] ∧ ResN w.heap.size (joinN lf ks vs lf2 ks2 vs2).1 (joinN lf ks vs lf2 ks2 vs2).2.1 (joinN lf ks vs lf2 ks2 vs2).2.2.1 u w' ∧ Ext No w w') := by
  have hk0 := hk; have hv0 := hv
  obtain ⟨ka, kc, rfl, hkc, hkm, hc⟩ := hk0.opened
  obtain ⟨va, vc, rfl, hvc, hvm, hd⟩ := hv0.opened
  have hk02 := hk2; have hv02 := hv2
  obtain ⟨ka2, kc2, rfl, hkc2, hkm2, hc2⟩ := hk02.opened
  obtain ⟨va2, vc2, rfl, hvc2, hvm2, hd2⟩ := hv02.opened
  refine enter Try.func25 rfl 25 Try.ntmps25 rfl ?_
  refine k_seq ?_
  refine s_region ?_
  refine s_go rfl rfl rfl (g_box rfl rfl rfl) ?_
  rintro _ w1 ⟨b1, rfl, s1, t1, B1, x1⟩
  refine s_go rfl rfl rfl (g_box rfl rfl rfl) ?_
  rintro _ w2 ⟨b2, rfl, s2, t2, B2, x2⟩
  refine s_go rfl rfl rfl (g_alloc (P := Try.prog) rfl (zs := [.bool false, .slice none 0 0, .slice none 0 0]) (by kernel_rfl)) ?_
  rintro _ w3 ⟨b3, rfl, s3, t3, B3, x3⟩
  refine s_do rfl rfl rfl (d_assign rfl rfl) ?_
  refine s_end ?_
  refine k_seq ?_
  refine k_block ?_
  refine k_seq ?_
  refine s_region ?_
  refine s_do rfl rfl rfl (d_loadAgg rfl rfl (vs := [.bool lf, .slice ka ks.length kc, .slice va vs.length vc]) (by kernel_rfl) (here (((B1.ext0 x2).ext0 x3).part 0 3 _ rfl))) ?_
  refine s_do rfl rfl rfl (d_loadAgg rfl rfl (vs := [.bool lf2, .slice ka2 ks2.length kc2, .slice va2 vs2.length vc2]) (by kernel_rfl) (here ((B2.ext0 x3).part 0 3 _ rfl))) ?_
  refine s_call rfl rfl rfl rfl rfl (fun w => Try.call36 _ w) (beside_c lf lf2 _ _ _ _ ks vs ks2 vs2 _ (((hk.ext0 x1).ext0 x2).ext0 x3) (((hv.ext0 x1).ext0 x2).ext0 x3) (((hk2.ext0 x1).ext0 x2).ext0 x3) (((hv2.ext0 x1).ext0 x2).ext0 x3)) ?_
  rintro _ w4 ⟨rfl, x4⟩
  have m4 := x4.size
  refine s_do rfl rfl rfl (d_not rfl rfl) ?_
  refine s_do rfl rfl rfl (d_assign rfl rfl) ?_
  refine s_end ?_
  refine k_cond rfl (fun h1 => ?_) (fun h1 => ?_)
  · -- yes: (!besB lf ks vs lf2 ks2 vs2)
    have hb : besB lf ks vs lf2 ks2 vs2 = false := by simpa using h1
    refine k_seq ?_
    refine s_region ?_
    refine s_do rfl rfl rfl (d_build rfl rfl (out := [.bool false, .slice none 0 0, .slice none 0 0]) (by kernel_rfl)) ?_
    refine s_put rfl rfl (p_store rfl rfl rfl (vs := [.bool false, .slice none 0 0, .slice none 0 0]) rfl (by simp [Value.oneCell']) (by kernel_rfl) ((B3.ext0 x4)) (by simp) (out := [.bool false, .slice none 0 0, .slice none 0 0]) rfl) ?_
    rintro w5 ⟨B5, x5, t5⟩
    refine s_do rfl rfl rfl (d_assign rfl rfl) ?_
    refine s_end ?_
    refine k_ret ?_
    refine doneL rfl [.agg #[.bool false, .slice none 0 0, .slice none 0 0], .int .i64 22] ⟨⟨_, _, rfl, run_loadBlk (by kernel_rfl) (B5) (vs := [.bool false, .slice none 0 0, .slice none 0 0]) rfl⟩, ⟨rfl, trivial⟩⟩ (v := .tuple #[.agg #[.bool false, .slice none 0 0, .slice none 0 0], .int .i64 22]) rfl ?_
    have X := ((((((Ext.refl No w).trans x1).trans x2).trans x3).trans x4).trans_new x5 (fun i hi => by subst hi; omega))
    have e : joinN lf ks vs lf2 ks2 vs2 = (false, [], [], 22) := by rw [joinN, if_neg (by rw [hb]; simp)]
    rw [e]
    exact ⟨_, rfl, ResN.cast (ks := []) (vs := []) (ResN.zero _ _) (by simp) (by simp), X⟩
  · -- no: (!besB lf ks vs lf2 ks2 vs2)
    have hb : besB lf ks vs lf2 ks2 vs2 = true := by simpa using h1
    obtain ⟨a1, a2, a3, a4⟩ := bes_ok hb
    obtain ⟨p1, p2, -⟩ := okB_ok a1
    obtain ⟨q1, q2, -⟩ := okB_ok a2
    refine k_seq ?_
    refine s_region ?_
    refine s_do rfl rfl rfl (d_field rfl (k := 1) (r := 1) (by kernel_rfl) rfl rfl) ?_
    refine s_do rfl rfl rfl (d_load rfl rfl (by kernel_rfl) (here ((((B1.ext0 x2).ext0 x3).ext0 x4).cel 1 rfl))) ?_
    refine s_do rfl rfl rfl (d_len rfl (z := 1) (by kernel_rfl) rfl) ?_
    refine s_do rfl rfl rfl (d_field rfl (k := 1) (r := 1) (by kernel_rfl) rfl rfl) ?_
    refine s_do rfl rfl rfl (d_load rfl rfl (by kernel_rfl) (here (((B2.ext0 x3).ext0 x4).cel 1 rfl))) ?_
    refine s_do rfl rfl rfl (d_len rfl (z := 1) (by kernel_rfl) rfl) ?_
    refine s_do rfl rfl rfl (d_add64 rfl rfl rfl (r := (ks.length : Int) + (ks2.length : Int)) (by omega) (by omega)) ?_
    refine s_do rfl rfl rfl (d_gtr rfl rfl rfl) ?_
    refine s_do rfl rfl rfl (d_assign rfl rfl) ?_
    refine s_end ?_
    refine k_dec rfl (fun h2 => ?_) (fun h2 => ?_)
    · -- yes: (8 : Int) < ((ks.length : Int) + (ks2.length : Int))
      refine k_seq ?_
      refine s_region ?_
      refine s_do rfl rfl rfl (d_build rfl rfl (out := [.bool false, .slice none 0 0, .slice none 0 0]) (by kernel_rfl)) ?_
      refine s_put rfl rfl (p_store rfl rfl rfl (vs := [.bool false, .slice none 0 0, .slice none 0 0]) rfl (by simp [Value.oneCell']) (by kernel_rfl) ((B3.ext0 x4)) (by simp) (out := [.bool false, .slice none 0 0, .slice none 0 0]) rfl) ?_
      rintro w6 ⟨B6, x6, t6⟩
      refine s_do rfl rfl rfl (d_assign rfl rfl) ?_
      refine s_end ?_
      refine k_ret ?_
      refine doneL rfl [.agg #[.bool false, .slice none 0 0, .slice none 0 0], .int .i64 15] ⟨⟨_, _, rfl, run_loadBlk (by kernel_rfl) (B6) (vs := [.bool false, .slice none 0 0, .slice none 0 0]) rfl⟩, ⟨rfl, trivial⟩⟩ (v := .tuple #[.agg #[.bool false, .slice none 0 0, .slice none 0 0], .int .i64 15]) rfl ?_
      have X := ((((((Ext.refl No w).trans x1).trans x2).trans x3).trans x4).trans_new x6 (fun i hi => by subst hi; omega))
      have e : joinN lf ks vs lf2 ks2 vs2 = (false, [], [], 15) := by rw [joinN, if_pos hb, if_neg (by omega)]
      rw [e]
      exact ⟨_, rfl, ResN.cast (ks := []) (vs := []) (ResN.zero _ _) (by simp) (by simp), X⟩
    · -- no: (8 : Int) < ((ks.length : Int) + (ks2.length : Int))
      refine k_skip ?_
      refine k_seq ?_
      refine s_region ?_
      refine s_do rfl rfl rfl (d_loadAgg rfl rfl (vs := [.bool lf, .slice ka ks.length kc, .slice va vs.length vc]) (by kernel_rfl) (here ((((B1.ext0 x2).ext0 x3).ext0 x4).part 0 3 _ rfl))) ?_
      refine s_do rfl rfl rfl (d_loadAgg rfl rfl (vs := [.bool lf2, .slice ka2 ks2.length kc2, .slice va2 vs2.length vc2]) (by kernel_rfl) (here (((B2.ext0 x3).ext0 x4).part 0 3 _ rfl))) ?_
      refine s_call rfl rfl rfl rfl rfl (fun w => Try.call32 _ w) (both_c _ _ _ _ _ _ ks vs ks2 vs2 _ ((((hk.ext0 x1).ext0 x2).ext0 x3).ext0 x4) ((((hv.ext0 x1).ext0 x2).ext0 x3).ext0 x4) ((((hk2.ext0 x1).ext0 x2).ext0 x3).ext0 x4) ((((hv2.ext0 x1).ext0 x2).ext0 x3).ext0 x4) (by first | omega | (simp <;> omega)) (by first | omega | (simp <;> omega)) (by first | omega | (simp <;> omega)) (by first | omega | (simp <;> omega))) ?_
      rintro _ w7 ⟨⟨ga7, ca7, gb7, cb7, rfl, Oa7, Ob7, Ap7⟩, x7⟩
      have m7 := x7.size
      refine s_put rfl rfl (p_store rfl rfl rfl (vs := [.bool lf, .slice ga7 ((ks ++ ks2).length) ca7, .slice gb7 ((vs ++ vs2).length) cb7]) rfl (by simp [Value.oneCell']) (by kernel_rfl) (((B3.ext0 x4).ext0 x7)) (by simp) (out := [.bool lf, .slice ga7 ((ks ++ ks2).length) ca7, .slice gb7 ((vs ++ vs2).length) cb7]) rfl) ?_
      rintro w8 ⟨B8, x8, t8⟩
      refine s_do rfl rfl rfl (d_assign rfl rfl) ?_
      refine s_end ?_
      refine k_ret ?_
      refine doneL rfl [.agg #[.bool lf, .slice ga7 ((ks ++ ks2).length) ca7, .slice gb7 ((vs ++ vs2).length) cb7], .int .i64 0] ⟨⟨_, _, rfl, run_loadBlk (by kernel_rfl) (B8) (vs := [.bool lf, .slice ga7 ((ks ++ ks2).length) ca7, .slice gb7 ((vs ++ vs2).length) cb7]) rfl⟩, ⟨rfl, trivial⟩⟩ (v := .tuple #[.agg #[.bool lf, .slice ga7 ((ks ++ ks2).length) ca7, .slice gb7 ((vs ++ vs2).length) cb7], .int .i64 0]) rfl ?_
      have X := (((((((Ext.refl No w).trans x1).trans x2).trans x3).trans x4).trans x7).trans_new x8 (fun i hi => by subst hi; omega))
      have e : joinN lf ks vs lf2 ks2 vs2 = (lf, ks ++ ks2, vs ++ vs2, 0) := by rw [joinN, if_pos hb, if_pos (by omega)]
      rw [e]
      exact ⟨_, rfl, ResN.cast (ks := ks ++ ks2) (vs := vs ++ vs2) (ResN.mk ((Oa7.extb x8 (own_ne Oa7 (by omega))).base (by omega)) ((Ob7.extb x8 (own_ne Ob7 (by omega))).base (by omega)) Ap7) (by simp) (by simp), X⟩

theorem share_c (lf lf2 : Bool) (kv vv kv2 vv2 : Value) (ks vs ks2 vs2 : List Int) (w : World) (hk : RdI kv ks w) (hv : RdI vv vs w) (hk2 : RdI kv2 ks2 w) (hv2 : RdI vv2 vs2 w) :
    Calls Try.prog 27 #[.agg #[.bool lf, kv, vv], .agg #[.bool lf2, kv2, vv2]] w (Ret fun v w' => ∃ u u2, v = .tuple #[u, u2, .int .i64 (shareN lf ks vs lf2 ks2 vs2).2.2] ∧ ResN w.heap.size (shareN lf ks vs lf2 ks2 vs2).1.1 (shareN lf ks vs lf2 ks2 vs2).1.2.1 (shareN lf ks vs lf2 ks2 vs2).1.2.2 u w' ∧ ResN w.heap.size (shareN lf ks vs lf2 ks2 vs2).2.1.1 (shareN lf ks vs lf2 ks2 vs2).2.1.2.1 (shareN lf ks vs lf2 ks2 vs2).2.1.2.2 u2 w' ∧ Ap2 u u2 ∧ Ext No w w') := by
  have hk0 := hk; have hv0 := hv
  obtain ⟨ka, kc, rfl, hkc, hkm, hc⟩ := hk0.opened
  obtain ⟨va, vc, rfl, hvc, hvm, hd⟩ := hv0.opened
  have hk02 := hk2; have hv02 := hv2
  obtain ⟨ka2, kc2, rfl, hkc2, hkm2, hc2⟩ := hk02.opened
  obtain ⟨va2, vc2, rfl, hvc2, hvm2, hd2⟩ := hv02.opened
  refine enter Try.func27 rfl 34 Try.ntmps27 rfl ?_
  refine k_seq ?_
  refine s_region ?_
  refine s_go rfl rfl rfl (g_box rfl rfl rfl) ?_
  rintro _ w1 ⟨b1, rfl, s1, t1, B1, x1⟩
  refine s_go rfl rfl rfl (g_box rfl rfl rfl) ?_
  rintro _ w2 ⟨b2, rfl, s2, t2, B2, x2⟩
  refine s_go rfl rfl rfl (g_alloc (P := Try.prog) rfl (zs := [.bool false, .slice none 0 0, .slice none 0 0]) (by kernel_rfl)) ?_
  rintro _ w3 ⟨b3, rfl, s3, t3, B3, x3⟩
  refine s_go rfl rfl rfl (g_alloc (P := Try.prog) rfl (zs := [.bool false, .slice none 0 0, .slice none 0 0]) (by kernel_rfl)) ?_
  rintro _ w4 ⟨b4, rfl, s4, t4, B4, x4⟩
  refine s_do rfl rfl rfl (d_assign rfl rfl) ?_
  refine s_end ?_
  refine k_seq ?_
  refine k_seq ?_
  refine s_region ?_
  refine s_do rfl rfl rfl (d_loadAgg rfl rfl (vs := [.bool lf, .slice ka ks.length kc, .slice va vs.length vc]) (by kernel_rfl) (here ((((B1.ext0 x2).ext0 x3).ext0 x4).part 0 3 _ rfl))) ?_
  refine s_do rfl rfl rfl (d_loadAgg rfl rfl (vs := [.bool lf2, .slice ka2 ks2.length kc2, .slice va2 vs2.length vc2]) (by kernel_rfl) (here (((B2.ext0 x3).ext0 x4).part 0 3 _ rfl))) ?_
  refine s_call rfl rfl rfl rfl rfl (fun w => Try.call36 _ w) (beside_c lf lf2 _ _ _ _ ks vs ks2 vs2 _ ((((hk.ext0 x1).ext0 x2).ext0 x3).ext0 x4) ((((hv.ext0 x1).ext0 x2).ext0 x3).ext0 x4) ((((hk2.ext0 x1).ext0 x2).ext0 x3).ext0 x4) ((((hv2.ext0 x1).ext0 x2).ext0 x3).ext0 x4)) ?_
  rintro _ w5 ⟨rfl, x5⟩
  have m5 := x5.size
  refine s_do rfl rfl rfl (d_not rfl rfl) ?_
  refine s_do rfl rfl rfl (d_move rfl rfl) ?_
  refine s_part_b 13 rfl (fun h1 => ?_) (fun h1 => ?_)
  · -- yes: (!besB lf ks vs lf2 ks2 vs2)
    have hb : besB lf ks vs lf2 ks2 vs2 = false := by simpa using h1
    refine s_skip rfl rfl rfl ?_
    refine s_skip rfl rfl rfl ?_
    refine s_skip rfl rfl rfl ?_
    refine s_skip rfl rfl rfl ?_
    refine s_skip rfl rfl rfl ?_
    refine s_skip rfl rfl rfl ?_
    refine s_skip rfl rfl rfl ?_
    refine s_skip rfl rfl rfl ?_
    refine s_do rfl rfl rfl (d_pick_t rfl rfl rfl) ?_
    refine s_end ?_
    refine k_true rfl ?_
    refine k_seq ?_
    refine s_region ?_
    refine s_do rfl rfl rfl (d_build rfl rfl (out := [.bool false, .slice none 0 0, .slice none 0 0]) (by kernel_rfl)) ?_
    refine s_do rfl rfl rfl (d_build rfl rfl (out := [.bool false, .slice none 0 0, .slice none 0 0]) (by kernel_rfl)) ?_
    refine s_put rfl rfl (p_store rfl rfl rfl (vs := [.bool false, .slice none 0 0, .slice none 0 0]) rfl (by simp [Value.oneCell']) (by kernel_rfl) (((B3.ext0 x4).ext0 x5)) (by simp) (out := [.bool false, .slice none 0 0, .slice none 0 0]) rfl) ?_
    rintro w6 ⟨B6, x6, t6⟩
    refine s_put rfl rfl (p_store rfl rfl rfl (vs := [.bool false, .slice none 0 0, .slice none 0 0]) rfl (by simp [Value.oneCell']) (by kernel_rfl) (((B4.ext0 x5).ext x6 (show ¬ (b4 = b3) by omega))) (by simp) (out := [.bool false, .slice none 0 0, .slice none 0 0]) rfl) ?_
    rintro w7 ⟨B7, x7, t7⟩
    refine s_do rfl rfl rfl (d_assign rfl rfl) ?_
    refine s_end ?_
    refine k_ret ?_
    refine doneL rfl [.agg #[.bool false, .slice none 0 0, .slice none 0 0], .agg #[.bool false, .slice none 0 0, .slice none 0 0], .int .i64 22] ⟨⟨_, _, rfl, run_loadBlk (by kernel_rfl) ((B6.ext x7 (show ¬ (b3 = b4) by omega))) (vs := [.bool false, .slice none 0 0, .slice none 0 0]) rfl⟩, ⟨⟨_, _, rfl, run_loadBlk (by kernel_rfl) (B7) (vs := [.bool false, .slice none 0 0, .slice none 0 0]) rfl⟩, ⟨rfl, trivial⟩⟩⟩ (v := .tuple #[.agg #[.bool false, .slice none 0 0, .slice none 0 0], .agg #[.bool false, .slice none 0 0, .slice none 0 0], .int .i64 22]) rfl ?_
    have X := ((((((((Ext.refl No w).trans x1).trans x2).trans x3).trans x4).trans x5).trans_new x6 (fun i hi => by subst hi; omega)).trans_new x7 (fun i hi => by subst hi; omega))
    have e : shareN lf ks vs lf2 ks2 vs2 = (nilT, nilT, 22) := by rw [shareN, if_neg]; rintro ⟨a1, a2⟩; first | omega | (rw [hb] at a1; cases a1)
    rw [e]
    exact ⟨_, _, rfl, ResN.zero _ _, ResN.zero _ _, Ap2.zero, X⟩
  · -- no: (!besB lf ks vs lf2 ks2 vs2)
    have hb : besB lf ks vs lf2 ks2 vs2 = true := by simpa using h1
    obtain ⟨a1, a2, a3, a4⟩ := bes_ok hb
    obtain ⟨p1, p2, -⟩ := okB_ok a1
    obtain ⟨q1, q2, -⟩ := okB_ok a2
    refine s_do rfl rfl rfl (d_field rfl (k := 1) (r := 1) (by kernel_rfl) rfl rfl) ?_
    refine s_do rfl rfl rfl (d_load rfl rfl (by kernel_rfl) (here (((((B1.ext0 x2).ext0 x3).ext0 x4).ext0 x5).cel 1 rfl))) ?_
    refine s_do rfl rfl rfl (d_len rfl (z := 1) (by kernel_rfl) rfl) ?_
    refine s_do rfl rfl rfl (d_field rfl (k := 1) (r := 1) (by kernel_rfl) rfl rfl) ?_
    refine s_do rfl rfl rfl (d_load rfl rfl (by kernel_rfl) (here ((((B2.ext0 x3).ext0 x4).ext0 x5).cel 1 rfl))) ?_
    refine s_do rfl rfl rfl (d_len rfl (z := 1) (by kernel_rfl) rfl) ?_
    refine s_do rfl rfl rfl (d_add64 rfl rfl rfl (r := (ks.length : Int) + (ks2.length : Int)) (by omega) (by omega)) ?_
    refine s_do rfl rfl rfl (d_lss rfl rfl rfl) ?_
    refine s_do rfl rfl rfl (d_pick_f rfl rfl rfl) ?_
    refine s_end ?_
    refine k_dec rfl (fun h2 => ?_) (fun h2 => ?_)
    · -- yes: ((ks.length : Int) + (ks2.length : Int)) < 2
      refine k_seq ?_
      refine s_region ?_
      refine s_do rfl rfl rfl (d_build rfl rfl (out := [.bool false, .slice none 0 0, .slice none 0 0]) (by kernel_rfl)) ?_
      refine s_do rfl rfl rfl (d_build rfl rfl (out := [.bool false, .slice none 0 0, .slice none 0 0]) (by kernel_rfl)) ?_
      refine s_put rfl rfl (p_store rfl rfl rfl (vs := [.bool false, .slice none 0 0, .slice none 0 0]) rfl (by simp [Value.oneCell']) (by kernel_rfl) (((B3.ext0 x4).ext0 x5)) (by simp) (out := [.bool false, .slice none 0 0, .slice none 0 0]) rfl) ?_
      rintro w8 ⟨B8, x8, t8⟩
      refine s_put rfl rfl (p_store rfl rfl rfl (vs := [.bool false, .slice none 0 0, .slice none 0 0]) rfl (by simp [Value.oneCell']) (by kernel_rfl) (((B4.ext0 x5).ext x8 (show ¬ (b4 = b3) by omega))) (by simp) (out := [.bool false, .slice none 0 0, .slice none 0 0]) rfl) ?_
      rintro w9 ⟨B9, x9, t9⟩
      refine s_do rfl rfl rfl (d_assign rfl rfl) ?_
      refine s_end ?_
      refine k_ret ?_
      refine doneL rfl [.agg #[.bool false, .slice none 0 0, .slice none 0 0], .agg #[.bool false, .slice none 0 0, .slice none 0 0], .int .i64 22] ⟨⟨_, _, rfl, run_loadBlk (by kernel_rfl) ((B8.ext x9 (show ¬ (b3 = b4) by omega))) (vs := [.bool false, .slice none 0 0, .slice none 0 0]) rfl⟩, ⟨⟨_, _, rfl, run_loadBlk (by kernel_rfl) (B9) (vs := [.bool false, .slice none 0 0, .slice none 0 0]) rfl⟩, ⟨rfl, trivial⟩⟩⟩ (v := .tuple #[.agg #[.bool false, .slice none 0 0, .slice none 0 0], .agg #[.bool false, .slice none 0 0, .slice none 0 0], .int .i64 22]) rfl ?_
      have X := ((((((((Ext.refl No w).trans x1).trans x2).trans x3).trans x4).trans x5).trans_new x8 (fun i hi => by subst hi; omega)).trans_new x9 (fun i hi => by subst hi; omega))
      have e : shareN lf ks vs lf2 ks2 vs2 = (nilT, nilT, 22) := by rw [shareN, if_neg]; rintro ⟨a1, a2⟩; first | omega | (rw [hb] at a1; cases a1)
      rw [e]
      exact ⟨_, _, rfl, ResN.zero _ _, ResN.zero _ _, Ap2.zero, X⟩
    · -- no: ((ks.length : Int) + (ks2.length : Int)) < 2
      refine k_skip ?_
      refine k_seq ?_
      refine s_region ?_
      refine s_do rfl rfl rfl (d_loadAgg rfl rfl (vs := [.bool lf, .slice ka ks.length kc, .slice va vs.length vc]) (by kernel_rfl) (here (((((B1.ext0 x2).ext0 x3).ext0 x4).ext0 x5).part 0 3 _ rfl))) ?_
      refine s_do rfl rfl rfl (d_loadAgg rfl rfl (vs := [.bool lf2, .slice ka2 ks2.length kc2, .slice va2 vs2.length vc2]) (by kernel_rfl) (here ((((B2.ext0 x3).ext0 x4).ext0 x5).part 0 3 _ rfl))) ?_
      refine s_call rfl rfl rfl rfl rfl (fun w => Try.call32 _ w) (both_c _ _ _ _ _ _ ks vs ks2 vs2 _ (((((hk.ext0 x1).ext0 x2).ext0 x3).ext0 x4).ext0 x5) (((((hv.ext0 x1).ext0 x2).ext0 x3).ext0 x4).ext0 x5) (((((hk2.ext0 x1).ext0 x2).ext0 x3).ext0 x4).ext0 x5) (((((hv2.ext0 x1).ext0 x2).ext0 x3).ext0 x4).ext0 x5) (by first | omega | (simp <;> omega)) (by first | omega | (simp <;> omega)) (by first | omega | (simp <;> omega)) (by first | omega | (simp <;> omega))) ?_
      rintro _ w10 ⟨⟨ga10, ca10, gb10, cb10, rfl, Oa10, Ob10, Ap10⟩, x10⟩
      have m10 := x10.size
      refine s_call rfl rfl rfl rfl rfl (fun w => Try.call34 _ w) (halves_c lf _ _ (ks ++ ks2) (vs ++ vs2) _ Oa10.rd Ob10.rd (by first | omega | (simp <;> omega)) (by first | omega | (simp <;> omega))) ?_
      rintro _ w11 ⟨_, _, rfl, ⟨ga11, ca11, gb11, cb11, rfl, Oa11, Ob11, Ap11⟩, ⟨gc11, cc11, gd11, cd11, rfl, Oc11, Od11, Aq11⟩, Ax11, x11⟩
      have m11 := x11.size
      obtain ⟨Aac11, Aad11, Abc11, Abd11⟩ := Ax11 _ _ _ _ _ _ rfl rfl
      refine s_do rfl rfl rfl (d_move rfl rfl) ?_
      refine s_do rfl rfl rfl (d_extract rfl rfl rfl) ?_
      refine s_do rfl rfl rfl (d_extract rfl rfl rfl) ?_
      refine s_go rfl rfl rfl (g_alloc (P := Try.prog) rfl (zs := [.bool false, .slice none 0 0, .slice none 0 0]) (by kernel_rfl)) ?_
      rintro _ w12 ⟨b12, rfl, s12, t12, B12, x12⟩
      refine s_go rfl rfl rfl (g_alloc (P := Try.prog) rfl (zs := [.bool false, .slice none 0 0, .slice none 0 0]) (by kernel_rfl)) ?_
      rintro _ w13 ⟨b13, rfl, s13, t13, B13, x13⟩
      refine s_put rfl rfl (p_store rfl rfl rfl (vs := [.bool lf, .slice ga11 (((ks ++ ks2).take (((ks ++ ks2).length + 1) / 2)).length) ca11, .slice gb11 (((vs ++ vs2).take (((ks ++ ks2).length + 1) / 2)).length) cb11]) rfl (by simp [Value.oneCell']) (by kernel_rfl) ((B12.ext0 x13)) (by simp) (out := [.bool lf, .slice ga11 (((ks ++ ks2).take (((ks ++ ks2).length + 1) / 2)).length) ca11, .slice gb11 (((vs ++ vs2).take (((ks ++ ks2).length + 1) / 2)).length) cb11]) rfl) ?_
      rintro w14 ⟨B14, x14, t14⟩
      refine s_put rfl rfl (p_store rfl rfl rfl (vs := [.bool lf, .slice gc11 (((ks ++ ks2).drop (((ks ++ ks2).length + 1) / 2)).length) cc11, .slice gd11 (((vs ++ vs2).drop (((ks ++ ks2).length + 1) / 2)).length) cd11]) rfl (by simp [Value.oneCell']) (by kernel_rfl) ((B13.ext x14 (show ¬ (b13 = b12) by omega))) (by simp) (out := [.bool lf, .slice gc11 (((ks ++ ks2).drop (((ks ++ ks2).length + 1) / 2)).length) cc11, .slice gd11 (((vs ++ vs2).drop (((ks ++ ks2).length + 1) / 2)).length) cd11]) rfl) ?_
      rintro w15 ⟨B15, x15, t15⟩
      refine s_end ?_
      refine k_seq ?_
      refine a_region (Ext (fun i => i = b3 ∨ i = b4) w15) 5 rfl (by kernel_rfl) (fun w16 x16 z16 => ?_)
      refine a_do 0 rfl (by kernel_rfl) (by kernel_rfl) (by kernel_rfl) rfl rfl rfl (d_loadAgg rfl rfl (vs := [.bool lf, .slice ga11 (((ks ++ ks2).take (((ks ++ ks2).length + 1) / 2)).length) ca11, .slice gb11 (((vs ++ vs2).take (((ks ++ ks2).length + 1) / 2)).length) cb11]) (by kernel_rfl) (fun _ hx => ((B14.ext x15 (show ¬ (b12 = b13) by omega)).ext hx (show ¬ (b12 = b3 ∨ b12 = b4) by omega)).part 0 3 _ rfl)) ((Ext.refl (fun i => i = b3 ∨ i = b4) w15).trans x16.no) ?_
      refine a_do 1 rfl (by kernel_rfl) (by kernel_rfl) (by kernel_rfl) rfl rfl rfl (d_loadAgg rfl rfl (vs := [.bool lf, .slice gc11 (((ks ++ ks2).drop (((ks ++ ks2).length + 1) / 2)).length) cc11, .slice gd11 (((vs ++ vs2).drop (((ks ++ ks2).length + 1) / 2)).length) cd11]) (by kernel_rfl) (fun _ hx => (B15.ext hx (show ¬ (b13 = b3 ∨ b13 = b4) by omega)).part 0 3 _ rfl)) ((Ext.refl (fun i => i = b3 ∨ i = b4) w15).trans x16.no) ?_
      refine a_all [2] (by kernel_rfl) (by simp) ?_
      refine all1 ?_
      refine o_put rfl rfl rfl (p_store rfl rfl rfl (vs := [.bool lf, .slice ga11 (((ks ++ ks2).take (((ks ++ ks2).length + 1) / 2)).length) ca11, .slice gb11 (((vs ++ vs2).take (((ks ++ ks2).length + 1) / 2)).length) cb11]) rfl (by simp [Value.oneCell']) (by kernel_rfl) ((((((((((B3.ext0 x4).ext0 x5).ext0 x10).ext0 x11).ext0 x12).ext0 x13).ext x14 (show ¬ (b3 = b12) by omega)).ext x15 (show ¬ (b3 = b13) by omega)).ext0 x16)) (by simp) (out := [.bool lf, .slice ga11 (((ks ++ ks2).take (((ks ++ ks2).length + 1) / 2)).length) ca11, .slice gb11 (((vs ++ vs2).take (((ks ++ ks2).length + 1) / 2)).length) cb11]) rfl) ?_
      rintro w17 ⟨B17, x17, t17⟩
      refine a_and (((Ext.refl (fun i => i = b3 ∨ i = b4) w15).trans x16.no).trans (x17.mono fun i _ q => by first | exact .inl q | exact .inr q)) ?_
      refine a_all [3] (by kernel_rfl) (by simp) ?_
      refine all1 ?_
      refine o_put rfl rfl rfl (p_store rfl rfl rfl (vs := [.bool lf, .slice gc11 (((ks ++ ks2).drop (((ks ++ ks2).length + 1) / 2)).length) cc11, .slice gd11 (((vs ++ vs2).drop (((ks ++ ks2).length + 1) / 2)).length) cd11]) rfl (by simp [Value.oneCell']) (by kernel_rfl) ((((((((((B4.ext0 x5).ext0 x10).ext0 x11).ext0 x12).ext0 x13).ext x14 (show ¬ (b4 = b12) by omega)).ext x15 (show ¬ (b4 = b13) by omega)).ext0 x16).ext x17 (show ¬ (b4 = b3) by omega))) (by simp) (out := [.bool lf, .slice gc11 (((ks ++ ks2).drop (((ks ++ ks2).length + 1) / 2)).length) cc11, .slice gd11 (((vs ++ vs2).drop (((ks ++ ks2).length + 1) / 2)).length) cd11]) rfl) ?_
      rintro w18 ⟨B18, x18, t18⟩
      refine a_and ((((Ext.refl (fun i => i = b3 ∨ i = b4) w15).trans x16.no).trans (x17.mono fun i _ q => by first | exact .inl q | exact .inr q)).trans (x18.mono fun i _ q => by first | exact .inl q | exact .inr q)) ?_
      refine a_do 4 rfl (by kernel_rfl) (by kernel_rfl) (by kernel_rfl) rfl rfl rfl (d_assign rfl rfl) ((((Ext.refl (fun i => i = b3 ∨ i = b4) w15).trans x16.no).trans (x17.mono fun i _ q => by first | exact .inl q | exact .inr q)).trans (x18.mono fun i _ q => by first | exact .inl q | exact .inr q)) ?_
      refine a_done (by kernel_rfl) ?_
      refine k_ret ?_
      refine doneL rfl [.agg #[.bool lf, .slice ga11 (((ks ++ ks2).take (((ks ++ ks2).length + 1) / 2)).length) ca11, .slice gb11 (((vs ++ vs2).take (((ks ++ ks2).length + 1) / 2)).length) cb11], .agg #[.bool lf, .slice gc11 (((ks ++ ks2).drop (((ks ++ ks2).length + 1) / 2)).length) cc11, .slice gd11 (((vs ++ vs2).drop (((ks ++ ks2).length + 1) / 2)).length) cd11], .int .i64 0] ⟨⟨_, _, rfl, run_loadBlk (by kernel_rfl) ((B17.ext x18 (show ¬ (b3 = b4) by omega))) (vs := [.bool lf, .slice ga11 (((ks ++ ks2).take (((ks ++ ks2).length + 1) / 2)).length) ca11, .slice gb11 (((vs ++ vs2).take (((ks ++ ks2).length + 1) / 2)).length) cb11]) rfl⟩, ⟨⟨_, _, rfl, run_loadBlk (by kernel_rfl) (B18) (vs := [.bool lf, .slice gc11 (((ks ++ ks2).drop (((ks ++ ks2).length + 1) / 2)).length) cc11, .slice gd11 (((vs ++ vs2).drop (((ks ++ ks2).length + 1) / 2)).length) cd11]) rfl⟩, ⟨rfl, trivial⟩⟩⟩ (v := .tuple #[.agg #[.bool lf, .slice ga11 (((ks ++ ks2).take (((ks ++ ks2).length + 1) / 2)).length) ca11, .slice gb11 (((vs ++ vs2).take (((ks ++ ks2).length + 1) / 2)).length) cb11], .agg #[.bool lf, .slice gc11 (((ks ++ ks2).drop (((ks ++ ks2).length + 1) / 2)).length) cc11, .slice gd11 (((vs ++ vs2).drop (((ks ++ ks2).length + 1) / 2)).length) cd11], .int .i64 0]) rfl ?_
      have X := (((((((((((((((Ext.refl No w).trans x1).trans x2).trans x3).trans x4).trans x5).trans x10).trans x11).trans x12).trans x13).trans_new x14 (fun i hi => by subst hi; omega)).trans_new x15 (fun i hi => by subst hi; omega)).trans x16).trans_new x17 (fun i hi => by subst hi; omega)).trans_new x18 (fun i hi => by subst hi; omega))
      have e : shareN lf ks vs lf2 ks2 vs2 = ((lf, (ks ++ ks2).take (((ks ++ ks2).length + 1) / 2), (vs ++ vs2).take (((ks ++ ks2).length + 1) / 2)), (lf, (ks ++ ks2).drop (((ks ++ ks2).length + 1) / 2), (vs ++ vs2).drop (((ks ++ ks2).length + 1) / 2)), 0) := by rw [shareN, if_pos ⟨hb, by omega⟩]
      rw [e]
      exact ⟨_, _, rfl, (ResN.mk ((((((((Oa11.ext0 x12).ext0 x13).extb x14 (own_ne Oa11 (by omega))).extb x15 (own_ne Oa11 (by omega))).ext0 x16).extb x17 (own_ne Oa11 (by omega))).extb x18 (own_ne Oa11 (by omega))).base (by omega)) ((((((((Ob11.ext0 x12).ext0 x13).extb x14 (own_ne Ob11 (by omega))).extb x15 (own_ne Ob11 (by omega))).ext0 x16).extb x17 (own_ne Ob11 (by omega))).extb x18 (own_ne Ob11 (by omega))).base (by omega)) Ap11), (ResN.mk ((((((((Oc11.ext0 x12).ext0 x13).extb x14 (own_ne Oc11 (by omega))).extb x15 (own_ne Oc11 (by omega))).ext0 x16).extb x17 (own_ne Oc11 (by omega))).extb x18 (own_ne Oc11 (by omega))).base (by omega)) ((((((((Od11.ext0 x12).ext0 x13).extb x14 (own_ne Od11 (by omega))).extb x15 (own_ne Od11 (by omega))).ext0 x16).extb x17 (own_ne Od11 (by omega))).extb x18 (own_ne Od11 (by omega))).base (by omega)) Aq11), (Ap2.mk Aac11 Aad11 Abc11 Abd11), X⟩
end Go.Proofs.Yteehoppklgcggaa
