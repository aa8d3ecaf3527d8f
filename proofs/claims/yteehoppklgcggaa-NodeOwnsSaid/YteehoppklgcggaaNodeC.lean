/-
  Walks of package node and of its reference: Put, Drop. No condition.
-/
import Derived.Test.YteehoppklgcggaaNodeB
set_option maxRecDepth 100000
namespace Go.Proofs.Yteehoppklgcggaa
open Go.RowKit
theorem put_c (lf : Bool) (kv vv : Value) (ks vs : List Int) (key val : Int) (w : World) (hk : RdI kv ks w) (hv : RdI vv vs w) :
    Calls Try.prog 18 #[.agg #[.bool lf, kv, vv], .int .i64 key, .int .i64 val] w (Ret fun v w' => ∃ u, v = .tuple #[u, .int .i64 (putN lf ks vs key val).2.2.2] ∧ ResN w.heap.size (putN lf ks vs key val).1 (putN lf ks vs key val).2.1 (putN lf ks vs key val).2.2.1 u w' ∧ Ext No w w') := by
  have hk0 := hk; have hv0 := hv
  obtain ⟨ka, kc, rfl, hkc, hkm, hc⟩ := hk0.opened
  obtain ⟨va, vc, rfl, hvc, hvm, hd⟩ := hv0.opened
  refine enter Try.func18 rfl 63 Try.ntmps18 rfl ?_
  refine k_seq ?_
  refine s_region ?_
  refine s_go rfl rfl rfl (g_box rfl rfl rfl) ?_
  rintro _ w1 ⟨b1, rfl, s1, t1, B1, x1⟩
  refine s_go rfl rfl rfl (g_alloc (P := Try.prog) rfl (zs := [.bool false, .slice none 0 0, .slice none 0 0]) (by kernel_rfl)) ?_
  rintro _ w2 ⟨b2, rfl, s2, t2, B2, x2⟩
  refine s_do rfl rfl rfl (d_assign rfl rfl) ?_
  refine s_end ?_
  refine k_seq ?_
  refine k_block ?_
  refine k_seq ?_
  refine s_region ?_
  refine s_do rfl rfl rfl (d_loadAgg rfl rfl (vs := [.bool lf, .slice ka ks.length kc, .slice va vs.length vc]) (by kernel_rfl) (here ((B1.ext0 x2).part 0 3 _ rfl))) ?_
  refine s_call rfl rfl rfl rfl rfl (fun w => Try.call12 _ w) (check_c lf _ _ ks vs _ ((hk.ext0 x1).ext0 x2) ((hv.ext0 x1).ext0 x2)) ?_
  rintro _ w3 ⟨rfl, x3⟩
  have m3 := x3.size
  refine s_do rfl rfl rfl (d_neq rfl rfl rfl) ?_
  refine s_do rfl rfl rfl (d_assign rfl rfl) ?_
  refine s_end ?_
  refine k_dec rfl (fun h1 => ?_) (fun h1 => ?_)
  · -- yes: (errN (okB lf ks vs) : Int) ≠ 0
    have hok := no_of h1
    refine k_seq ?_
    refine s_region ?_
    refine s_do rfl rfl rfl (d_build rfl rfl (out := [.bool false, .slice none 0 0, .slice none 0 0]) (by kernel_rfl)) ?_
    refine s_put rfl rfl (p_store rfl rfl rfl (vs := [.bool false, .slice none 0 0, .slice none 0 0]) rfl (by simp [Value.oneCell']) (by kernel_rfl) ((B2.ext0 x3)) (by simp) (out := [.bool false, .slice none 0 0, .slice none 0 0]) rfl) ?_
    rintro w4 ⟨B4, x4, t4⟩
    refine s_do rfl rfl rfl (d_assign rfl rfl) ?_
    refine s_end ?_
    refine k_ret ?_
    refine doneL rfl [.agg #[.bool false, .slice none 0 0, .slice none 0 0], .int .i64 22] ⟨⟨_, _, rfl, run_loadBlk (by kernel_rfl) (B4) (vs := [.bool false, .slice none 0 0, .slice none 0 0]) rfl⟩, ⟨rfl, trivial⟩⟩ (v := .tuple #[.agg #[.bool false, .slice none 0 0, .slice none 0 0], .int .i64 22]) rfl ?_
    have X := (((((Ext.refl No w).trans x1).trans x2).trans x3).trans_new x4 (fun i hi => by subst hi; omega))
    have e : putN lf ks vs key val = (false, [], [], 22) := by simp [putN, hok]
    rw [e]
    exact ⟨_, rfl, ResN.cast (ks := []) (vs := []) (ResN.zero _ _) (by simp) (by simp), X⟩
  · -- no: (errN (okB lf ks vs) : Int) ≠ 0
    have hok := ok_of h1
    obtain ⟨p1, p2, p3, p4, p5⟩ := okB_ok hok
    have hfl := findN_le ks key
    refine k_seq ?_
    refine s_region ?_
    refine s_do rfl rfl rfl (d_move rfl rfl) ?_
    refine s_do rfl rfl rfl (d_move rfl rfl) ?_
    refine s_call rfl rfl rfl rfl rfl (fun w => Try.call30 _ w) (fits_c _ _ _) ?_
    rintro _ w5 ⟨rfl, x5⟩
    have m5 := x5.size
    refine s_do rfl rfl rfl (d_not rfl rfl) ?_
    refine s_do rfl rfl rfl (d_assign rfl rfl) ?_
    refine s_end ?_
    refine k_cond rfl (fun h2 => ?_) (fun h2 => ?_)
    · -- yes: (!fitsB key val)
      have hft : fitsB key val = false := by simpa using h2
      refine k_seq ?_
      refine s_region ?_
      refine s_do rfl rfl rfl (d_build rfl rfl (out := [.bool false, .slice none 0 0, .slice none 0 0]) (by kernel_rfl)) ?_
      refine s_put rfl rfl (p_store rfl rfl rfl (vs := [.bool false, .slice none 0 0, .slice none 0 0]) rfl (by simp [Value.oneCell']) (by kernel_rfl) (((B2.ext0 x3).ext0 x5)) (by simp) (out := [.bool false, .slice none 0 0, .slice none 0 0]) rfl) ?_
      rintro w6 ⟨B6, x6, t6⟩
      refine s_do rfl rfl rfl (d_assign rfl rfl) ?_
      refine s_end ?_
      refine k_ret ?_
      refine doneL rfl [.agg #[.bool false, .slice none 0 0, .slice none 0 0], .int .i64 1] ⟨⟨_, _, rfl, run_loadBlk (by kernel_rfl) (B6) (vs := [.bool false, .slice none 0 0, .slice none 0 0]) rfl⟩, ⟨rfl, trivial⟩⟩ (v := .tuple #[.agg #[.bool false, .slice none 0 0, .slice none 0 0], .int .i64 1]) rfl ?_
      have X := ((((((Ext.refl No w).trans x1).trans x2).trans x3).trans x5).trans_new x6 (fun i hi => by subst hi; omega))
      have e : putN lf ks vs key val = (false, [], [], 1) := by simp [putN, hok, hft]
      rw [e]
      exact ⟨_, rfl, ResN.cast (ks := []) (vs := []) (ResN.zero _ _) (by simp) (by simp), X⟩
    · -- no: (!fitsB key val)
      have hft : fitsB key val = true := by simpa using h2
      refine k_skip ?_
      refine k_seq ?_
      refine s_region ?_
      refine s_do rfl rfl rfl (d_loadAgg rfl rfl (vs := [.bool lf, .slice ka ks.length kc, .slice va vs.length vc]) (by kernel_rfl) (here ((((B1.ext0 x2).ext0 x3).ext0 x5).part 0 3 _ rfl))) ?_
      refine s_do rfl rfl rfl (d_move rfl rfl) ?_
      refine s_call rfl rfl rfl rfl rfl (fun w => Try.call14 _ w) (find_c lf _ _ ks _ _ ((((hk.ext0 x1).ext0 x2).ext0 x3).ext0 x5)) ?_
      rintro _ w7 ⟨rfl, x7⟩
      have m7 := x7.size
      refine s_do rfl rfl rfl (d_move rfl rfl) ?_
      refine s_do rfl rfl rfl (d_extract rfl rfl rfl) ?_
      refine s_do rfl rfl rfl (d_extract rfl rfl rfl) ?_
      refine s_do rfl rfl rfl (d_assign rfl rfl) ?_
      refine s_do rfl rfl rfl (d_assign rfl rfl) ?_
      refine s_end ?_
      refine k_seq ?_
      refine k_seq ?_
      refine s_region ?_
      refine s_do rfl rfl rfl (d_move rfl rfl) ?_
      refine s_end ?_
      refine k_dec rfl (fun h3 => ?_) (fun h3 => ?_)
      · -- yes: ks[findN ks key]? = some key
        have hat := h3
        have hfs := (List.getElem?_eq_some_iff.1 h3).1
        refine k_seq ?_
        refine s_region ?_
        refine s_do rfl rfl rfl (d_loadAgg rfl rfl (vs := [.bool lf, .slice ka ks.length kc, .slice va vs.length vc]) (by kernel_rfl) (here (((((B1.ext0 x2).ext0 x3).ext0 x5).ext0 x7).part 0 3 _ rfl))) ?_
        refine s_do rfl rfl rfl (d_field rfl (k := 1) (r := 1) (by kernel_rfl) rfl rfl) ?_
        refine s_do rfl rfl rfl (d_load rfl rfl (by kernel_rfl) (here (((((B1.ext0 x2).ext0 x3).ext0 x5).ext0 x7).cel 1 rfl))) ?_
        refine s_do rfl rfl rfl (d_len rfl (z := 1) (by kernel_rfl) rfl) ?_
        refine s_call rfl rfl rfl rfl rfl (fun w => Try.call31 _ w) (castN (part_c _ _ _ ks vs 0 ks.length _ _ _ (by simp) (by simp) (((((hk.ext0 x1).ext0 x2).ext0 x3).ext0 x5).ext0 x7) (((((hv.ext0 x1).ext0 x2).ext0 x3).ext0 x5).ext0 x7) (by first | omega | (simp <;> omega)) (by first | omega | (simp <;> omega)) (by first | omega | (simp <;> omega)) (by first | omega | (simp <;> omega)) (by first | omega | (simp <;> omega))) (ks' := ks) (vs' := vs) (by simp) (by simp [p1])) ?_
        rintro _ w8 ⟨⟨ga8, ca8, gb8, cb8, rfl, Oa8, Ob8, Ap8⟩, x8⟩
        have m8 := x8.size
        refine s_go rfl rfl rfl (g_alloc (P := Try.prog) rfl (zs := [.bool false, .slice none 0 0, .slice none 0 0]) (by kernel_rfl)) ?_
        rintro _ w9 ⟨b9, rfl, s9, t9, B9, x9⟩
        refine s_put rfl rfl (p_store rfl rfl rfl (vs := [.bool lf, .slice ga8 ((ks).length) ca8, .slice gb8 ((vs).length) cb8]) rfl (by simp [Value.oneCell']) (by kernel_rfl) (B9) (by simp) (out := [.bool lf, .slice ga8 ((ks).length) ca8, .slice gb8 ((vs).length) cb8]) rfl) ?_
        rintro w10 ⟨B10, x10, t10⟩
        refine s_end ?_
        refine k_seq ?_
        refine s_region ?_
        refine s_do rfl rfl rfl (d_field rfl (k := 2) (r := 2) (by kernel_rfl) rfl rfl) ?_
        refine s_do rfl rfl rfl (d_load rfl rfl (by kernel_rfl) (here (B10.cel 2 rfl))) ?_
        refine s_do rfl rfl rfl (d_move rfl rfl) ?_
        refine s_do rfl rfl rfl (d_move rfl rfl) ?_
        obtain ⟨xv, hxv⟩ := OwnI.at_ ((Ob8.ext0 x9).extb x10 (own_ne Ob8 (by omega))) (j := findN ks key) (by first | omega | (simp <;> omega))
        refine s_do rfl rfl rfl (d_indexE rfl (z := 1) (j := (findN ks key)) (r := (findN ks key)) (by kernel_rfl) rfl rfl rfl (by omega) hxv (by omega)) ?_
        have o11 := ((Ob8.ext0 x9).extb x10 (own_ne Ob8 (by omega)))
        refine s_put rfl rfl (p_storeI rfl rfl rfl o11 (by omega)) ?_
        rintro w11 ⟨O11, x11⟩
        have m11 := x11.size
        refine s_end ?_
        refine k_seq ?_
        refine s_region ?_
        refine s_do rfl rfl rfl (d_loadAgg rfl rfl (vs := [.bool lf, .slice ga8 ((ks).length) ca8, .slice gb8 ((vs).length) cb8]) (by kernel_rfl) (here ((B10.extO x11 (own_ne Ob8 (by omega))).part 0 3 _ rfl))) ?_
        refine s_put rfl rfl (p_store rfl rfl rfl (vs := [.bool lf, .slice ga8 ((ks).length) ca8, .slice gb8 ((vs).length) cb8]) rfl (by simp [Value.oneCell']) (by kernel_rfl) ((((((((B2.ext0 x3).ext0 x5).ext0 x7).ext0 x8).ext0 x9).ext x10 (show ¬ (b2 = b9) by omega)).extO x11 (own_ne Ob8 (by omega)))) (by simp) (out := [.bool lf, .slice ga8 ((ks).length) ca8, .slice gb8 ((vs).length) cb8]) rfl) ?_
        rintro w12 ⟨B12, x12, t12⟩
        refine s_do rfl rfl rfl (d_assign rfl rfl) ?_
        refine s_end ?_
        refine k_ret ?_
        refine doneL rfl [.agg #[.bool lf, .slice ga8 ((ks).length) ca8, .slice gb8 ((vs).length) cb8], .int .i64 0] ⟨⟨_, _, rfl, run_loadBlk (by kernel_rfl) (B12) (vs := [.bool lf, .slice ga8 ((ks).length) ca8, .slice gb8 ((vs).length) cb8]) rfl⟩, ⟨rfl, trivial⟩⟩ (v := .tuple #[.agg #[.bool lf, .slice ga8 ((ks).length) ca8, .slice gb8 ((vs).length) cb8], .int .i64 0]) rfl ?_
        have X := (((((((((((Ext.refl No w).trans x1).trans x2).trans x3).trans x5).trans x7).trans x8).trans x9).trans_new x10 (fun i hi => by subst hi; omega)).transO x11 o11 (by omega)).trans_new x12 (fun i hi => by subst hi; omega))
        have e : putN lf ks vs key val = (lf, ks, vs.set (findN ks key) val, 0) := by simp [putN, hok, hft, hat]
        rw [e]
        exact ⟨_, rfl, ResN.cast (ks := ks) (vs := vs.set (findN ks key) val) (ResN.mk (((((Oa8.ext0 x9).extb x10 (own_ne Oa8 (by omega))).extO x11 (Ap8).symm).extb x12 (own_ne Oa8 (by omega))).base (by omega)) ((O11.extb x12 (own_ne O11 (by omega))).base (by omega)) Ap8) (by simp) (by simp), X⟩
      · -- no: ks[findN ks key]? = some key
        have hat := h3
        refine k_skip ?_
        refine k_seq ?_
        refine k_seq ?_
        refine s_region ?_
        refine s_do rfl rfl rfl (d_field rfl (k := 1) (r := 1) (by kernel_rfl) rfl rfl) ?_
        refine s_do rfl rfl rfl (d_load rfl rfl (by kernel_rfl) (here (((((B1.ext0 x2).ext0 x3).ext0 x5).ext0 x7).cel 1 rfl))) ?_
        refine s_do rfl rfl rfl (d_len rfl (z := 1) (by kernel_rfl) rfl) ?_
        refine s_do rfl rfl rfl (d_geq rfl rfl rfl) ?_
        refine s_end ?_
        refine k_dec rfl (fun h4 => ?_) (fun h4 => ?_)
        · -- yes: (8 : Int) ≤ (ks.length : Int)
          have hlt : ¬ ks.length < 8 := by omega
          refine k_seq ?_
          refine s_region ?_
          refine s_do rfl rfl rfl (d_build rfl rfl (out := [.bool false, .slice none 0 0, .slice none 0 0]) (by kernel_rfl)) ?_
          refine s_put rfl rfl (p_store rfl rfl rfl (vs := [.bool false, .slice none 0 0, .slice none 0 0]) rfl (by simp [Value.oneCell']) (by kernel_rfl) ((((B2.ext0 x3).ext0 x5).ext0 x7)) (by simp) (out := [.bool false, .slice none 0 0, .slice none 0 0]) rfl) ?_
          rintro w13 ⟨B13, x13, t13⟩
          refine s_do rfl rfl rfl (d_assign rfl rfl) ?_
          refine s_end ?_
          refine k_ret ?_
          refine doneL rfl [.agg #[.bool false, .slice none 0 0, .slice none 0 0], .int .i64 15] ⟨⟨_, _, rfl, run_loadBlk (by kernel_rfl) (B13) (vs := [.bool false, .slice none 0 0, .slice none 0 0]) rfl⟩, ⟨rfl, trivial⟩⟩ (v := .tuple #[.agg #[.bool false, .slice none 0 0, .slice none 0 0], .int .i64 15]) rfl ?_
          have X := (((((((Ext.refl No w).trans x1).trans x2).trans x3).trans x5).trans x7).trans_new x13 (fun i hi => by subst hi; omega))
          have e : putN lf ks vs key val = (false, [], [], 15) := by simp [putN, hok, hft, hat, hlt]
          rw [e]
          exact ⟨_, rfl, ResN.cast (ks := []) (vs := []) (ResN.zero _ _) (by simp) (by simp), X⟩
        · -- no: (8 : Int) ≤ (ks.length : Int)
          have hlt : ks.length < 8 := by omega
          refine k_skip ?_
          refine k_seq ?_
          refine s_region ?_
          refine s_do rfl rfl rfl (d_move rfl rfl) ?_
          refine s_go rfl rfl rfl (g_oneI rfl rfl) ?_
          rintro _ w14 ⟨b14, rfl, s14, R14, x14⟩
          have m14 := x14.size
          refine s_do rfl rfl rfl (d_move rfl rfl) ?_
          refine s_go rfl rfl rfl (g_oneI rfl rfl) ?_
          rintro _ w15 ⟨b15, rfl, s15, R15, x15⟩
          have m15 := x15.size
          refine s_do rfl rfl rfl (d_build rfl rfl (out := [.bool false, .slice (some ⟨b14, 0, none⟩) 1 1, .slice (some ⟨b15, 0, none⟩) 1 1]) (by kernel_rfl)) ?_
          refine s_go rfl rfl rfl (g_alloc (P := Try.prog) rfl (zs := [.bool false, .slice none 0 0, .slice none 0 0]) (by kernel_rfl)) ?_
          rintro _ w16 ⟨b16, rfl, s16, t16, B16, x16⟩
          refine s_put rfl rfl (p_store rfl rfl rfl (vs := [.bool false, .slice (some ⟨b14, 0, none⟩) 1 1, .slice (some ⟨b15, 0, none⟩) 1 1]) rfl (by simp [Value.oneCell']) (by kernel_rfl) (B16) (by simp) (out := [.bool false, .slice (some ⟨b14, 0, none⟩) 1 1, .slice (some ⟨b15, 0, none⟩) 1 1]) rfl) ?_
          rintro w17 ⟨B17, x17, t17⟩
          refine s_end ?_
          refine k_seq ?_
          refine a_region (Ext (· = b2) w17) 14 rfl (by kernel_rfl) (fun w18 x18 z18 => ?_)
          refine a_do 0 rfl (by kernel_rfl) (by kernel_rfl) (by kernel_rfl) rfl rfl rfl (d_loadAgg rfl rfl (vs := [.bool lf, .slice ka ks.length kc, .slice va vs.length vc]) (by kernel_rfl) (fun _ hx => (((((((((B1.ext0 x2).ext0 x3).ext0 x5).ext0 x7).ext0 x14).ext0 x15).ext0 x16).ext x17 (show ¬ (b1 = b16) by omega)).ext hx (show ¬ (b1 = b2) by omega)).part 0 3 _ rfl)) ((Ext.refl (· = b2) w17).trans x18.no) ?_
          refine a_do 1 rfl (by kernel_rfl) (by kernel_rfl) (by kernel_rfl) rfl rfl rfl (d_move rfl rfl) ((Ext.refl (· = b2) w17).trans x18.no) ?_
          refine a_do 3 rfl (by kernel_rfl) (by kernel_rfl) (by kernel_rfl) rfl rfl rfl (d_loadAgg rfl rfl (vs := [.bool false, .slice (some ⟨b14, 0, none⟩) 1 1, .slice (some ⟨b15, 0, none⟩) 1 1]) (by kernel_rfl) (fun _ hx => (B17.ext hx (show ¬ (b16 = b2) by omega)).part 0 3 _ rfl)) ((Ext.refl (· = b2) w17).trans x18.no) ?_
          refine a_do 5 rfl (by kernel_rfl) (by kernel_rfl) (by kernel_rfl) rfl rfl rfl (d_loadAgg rfl rfl (vs := [.bool lf, .slice ka ks.length kc, .slice va vs.length vc]) (by kernel_rfl) (fun _ hx => (((((((((B1.ext0 x2).ext0 x3).ext0 x5).ext0 x7).ext0 x14).ext0 x15).ext0 x16).ext x17 (show ¬ (b1 = b16) by omega)).ext hx (show ¬ (b1 = b2) by omega)).part 0 3 _ rfl)) ((Ext.refl (· = b2) w17).trans x18.no) ?_
          refine a_do 6 rfl (by kernel_rfl) (by kernel_rfl) (by kernel_rfl) rfl rfl rfl (d_move rfl rfl) ((Ext.refl (· = b2) w17).trans x18.no) ?_
          refine a_do 7 rfl (by kernel_rfl) (by kernel_rfl) (by kernel_rfl) rfl rfl rfl (d_field rfl (k := 1) (r := 1) (by kernel_rfl) rfl rfl) ((Ext.refl (· = b2) w17).trans x18.no) ?_
          refine a_do 8 rfl (by kernel_rfl) (by kernel_rfl) (by kernel_rfl) rfl rfl rfl (d_load rfl rfl (by kernel_rfl) (fun _ hx => (((((((((B1.ext0 x2).ext0 x3).ext0 x5).ext0 x7).ext0 x14).ext0 x15).ext0 x16).ext x17 (show ¬ (b1 = b16) by omega)).ext hx (show ¬ (b1 = b2) by omega)).cel 1 rfl)) ((Ext.refl (· = b2) w17).trans x18.no) ?_
          refine a_do 9 rfl (by kernel_rfl) (by kernel_rfl) (by kernel_rfl) rfl rfl rfl (d_len rfl (z := 1) (by kernel_rfl) rfl) ((Ext.refl (· = b2) w17).trans x18.no) ?_
          refine a_all [2] (by kernel_rfl) (by simp) ?_
          refine all1 ?_
          refine o_call rfl rfl rfl rfl rfl rfl (fun w => Try.call31 _ w) (part_c _ _ _ ks vs 0 (findN ks key) _ _ _ (by simp) (by simp) (hk.ext0 (((((((((((Ext.refl No w).trans x1).trans x2).trans x3).trans x5).trans x7).trans x14).trans x15).trans x16).trans_new x17 (fun i hi => by subst hi; omega)).trans x18)) (hv.ext0 (((((((((((Ext.refl No w).trans x1).trans x2).trans x3).trans x5).trans x7).trans x14).trans x15).trans x16).trans_new x17 (fun i hi => by subst hi; omega)).trans x18)) (by first | omega | (simp <;> omega)) (by first | omega | (simp <;> omega)) (by first | omega | (simp <;> omega)) (by first | omega | (simp <;> omega)) (by first | omega | (simp <;> omega))) ?_
          rintro _ w19 ⟨⟨ga19, ca19, gb19, cb19, rfl, Oa19, Ob19, Ap19⟩, x19⟩
          have m19 := x19.size
          refine a_and (((Ext.refl (· = b2) w17).trans x18.no).trans x19.no) ?_
          refine a_all [4] (by kernel_rfl) (by simp) ?_
          refine all1 ?_
          refine o_call rfl rfl rfl rfl rfl rfl (fun w => Try.call32 _ w) (both_c _ _ _ _ _ _ ((ks.drop 0).take ((findN ks key) - 0)) ((vs.drop 0).take ((findN ks key) - 0)) ([key]) ([val]) _ Oa19.rd Ob19.rd (R14.ext0 ((((((Ext.refl No w14).trans x15).trans x16).trans_new x17 (fun i hi => by subst hi; omega)).trans x18).trans x19)) (R15.ext0 (((((Ext.refl No w15).trans x16).trans_new x17 (fun i hi => by subst hi; omega)).trans x18).trans x19)) (by first | omega | (simp <;> omega)) (by first | omega | (simp <;> omega)) (by first | omega | (simp <;> omega)) (by first | omega | (simp <;> omega))) ?_
          rintro _ w20 ⟨⟨ga20, ca20, gb20, cb20, rfl, Oa20, Ob20, Ap20⟩, x20⟩
          have m20 := x20.size
          refine a_and ((((Ext.refl (· = b2) w17).trans x18.no).trans x19.no).trans x20.no) ?_
          refine a_all [10] (by kernel_rfl) (by simp) ?_
          refine all1 ?_
          refine o_call rfl rfl rfl rfl rfl rfl (fun w => Try.call31 _ w) (part_c _ _ _ ks vs (findN ks key) ks.length _ _ _ (by simp) (by simp) (hk.ext0 (((((((((((((Ext.refl No w).trans x1).trans x2).trans x3).trans x5).trans x7).trans x14).trans x15).trans x16).trans_new x17 (fun i hi => by subst hi; omega)).trans x18).trans x19).trans x20)) (hv.ext0 (((((((((((((Ext.refl No w).trans x1).trans x2).trans x3).trans x5).trans x7).trans x14).trans x15).trans x16).trans_new x17 (fun i hi => by subst hi; omega)).trans x18).trans x19).trans x20)) (by first | omega | (simp <;> omega)) (by first | omega | (simp <;> omega)) (by first | omega | (simp <;> omega)) (by first | omega | (simp <;> omega)) (by first | omega | (simp <;> omega))) ?_
          rintro _ w21 ⟨⟨ga21, ca21, gb21, cb21, rfl, Oa21, Ob21, Ap21⟩, x21⟩
          have m21 := x21.size
          refine a_and (((((Ext.refl (· = b2) w17).trans x18.no).trans x19.no).trans x20.no).trans x21.no) ?_
          refine a_all [11] (by kernel_rfl) (by simp) ?_
          refine all1 ?_
          refine o_call rfl rfl rfl rfl rfl rfl (fun w => Try.call32 _ w) (both_c _ _ _ _ _ _ (((ks.drop 0).take ((findN ks key) - 0)) ++ ([key])) (((vs.drop 0).take ((findN ks key) - 0)) ++ ([val])) ((ks.drop (findN ks key)).take (ks.length - (findN ks key))) ((vs.drop (findN ks key)).take (ks.length - (findN ks key))) _ (Oa20.ext0 x21).rd (Ob20.ext0 x21).rd Oa21.rd Ob21.rd (by first | omega | (simp <;> omega)) (by first | omega | (simp <;> omega)) (by first | omega | (simp <;> omega)) (by first | omega | (simp <;> omega))) ?_
          rintro _ w22 ⟨⟨ga22, ca22, gb22, cb22, rfl, Oa22, Ob22, Ap22⟩, x22⟩
          have m22 := x22.size
          refine a_and ((((((Ext.refl (· = b2) w17).trans x18.no).trans x19.no).trans x20.no).trans x21.no).trans x22.no) ?_
          refine a_all [12] (by kernel_rfl) (by simp) ?_
          refine all1 ?_
          refine o_put rfl rfl rfl (p_store rfl rfl rfl (vs := [.bool lf, .slice ga22 (((((ks.drop 0).take ((findN ks key) - 0)) ++ ([key])) ++ ((ks.drop (findN ks key)).take (ks.length - (findN ks key)))).length) ca22, .slice gb22 (((((vs.drop 0).take ((findN ks key) - 0)) ++ ([val])) ++ ((vs.drop (findN ks key)).take (ks.length - (findN ks key)))).length) cb22]) rfl (by simp [Value.oneCell']) (by kernel_rfl) (((((((((((((B2.ext0 x3).ext0 x5).ext0 x7).ext0 x14).ext0 x15).ext0 x16).ext x17 (show ¬ (b2 = b16) by omega)).ext0 x18).ext0 x19).ext0 x20).ext0 x21).ext0 x22)) (by simp) (out := [.bool lf, .slice ga22 (((((ks.drop 0).take ((findN ks key) - 0)) ++ ([key])) ++ ((ks.drop (findN ks key)).take (ks.length - (findN ks key)))).length) ca22, .slice gb22 (((((vs.drop 0).take ((findN ks key) - 0)) ++ ([val])) ++ ((vs.drop (findN ks key)).take (ks.length - (findN ks key)))).length) cb22]) rfl) ?_
          rintro w23 ⟨B23, x23, t23⟩
          refine a_and (((((((Ext.refl (· = b2) w17).trans x18.no).trans x19.no).trans x20.no).trans x21.no).trans x22.no).trans x23) ?_
          refine a_do 13 rfl (by kernel_rfl) (by kernel_rfl) (by kernel_rfl) rfl rfl rfl (d_assign rfl rfl) (((((((Ext.refl (· = b2) w17).trans x18.no).trans x19.no).trans x20.no).trans x21.no).trans x22.no).trans x23) ?_
          refine a_done (by kernel_rfl) ?_
          refine k_ret ?_
          refine doneL rfl [.agg #[.bool lf, .slice ga22 (((((ks.drop 0).take ((findN ks key) - 0)) ++ ([key])) ++ ((ks.drop (findN ks key)).take (ks.length - (findN ks key)))).length) ca22, .slice gb22 (((((vs.drop 0).take ((findN ks key) - 0)) ++ ([val])) ++ ((vs.drop (findN ks key)).take (ks.length - (findN ks key)))).length) cb22], .int .i64 0] ⟨⟨_, _, rfl, run_loadBlk (by kernel_rfl) (B23) (vs := [.bool lf, .slice ga22 (((((ks.drop 0).take ((findN ks key) - 0)) ++ ([key])) ++ ((ks.drop (findN ks key)).take (ks.length - (findN ks key)))).length) ca22, .slice gb22 (((((vs.drop 0).take ((findN ks key) - 0)) ++ ([val])) ++ ((vs.drop (findN ks key)).take (ks.length - (findN ks key)))).length) cb22]) rfl⟩, ⟨rfl, trivial⟩⟩ (v := .tuple #[.agg #[.bool lf, .slice ga22 (((((ks.drop 0).take ((findN ks key) - 0)) ++ ([key])) ++ ((ks.drop (findN ks key)).take (ks.length - (findN ks key)))).length) ca22, .slice gb22 (((((vs.drop 0).take ((findN ks key) - 0)) ++ ([val])) ++ ((vs.drop (findN ks key)).take (ks.length - (findN ks key)))).length) cb22], .int .i64 0]) rfl ?_
          have X := ((((((((((((((((Ext.refl No w).trans x1).trans x2).trans x3).trans x5).trans x7).trans x14).trans x15).trans x16).trans_new x17 (fun i hi => by subst hi; omega)).trans x18).trans x19).trans x20).trans x21).trans x22).trans_new x23 (fun i hi => by subst hi; omega))
          have e : putN lf ks vs key val = (lf, ks.take (findN ks key) ++ key :: ks.drop (findN ks key), vs.take (findN ks key) ++ val :: vs.drop (findN ks key), 0) := by simp [putN, hok, hft, hat, hlt]
          rw [e]
          have td1 := td ks (findN ks key) ks.length (by omega); have td2 := td vs (findN ks key) ks.length (by omega)
          exact ⟨_, rfl, ResN.cast (ks := (((ks.drop 0).take ((findN ks key) - 0)) ++ ([key])) ++ ((ks.drop (findN ks key)).take (ks.length - (findN ks key)))) (vs := (((vs.drop 0).take ((findN ks key) - 0)) ++ ([val])) ++ ((vs.drop (findN ks key)).take (ks.length - (findN ks key)))) (ResN.mk ((Oa22.extb x23 (own_ne Oa22 (by omega))).base (by omega)) ((Ob22.extb x23 (own_ne Ob22 (by omega))).base (by omega)) Ap22) (by simp [td1]) (by simp [td2]), X⟩

theorem rput_c (lf : Bool) (kv vv : Value) (ks vs : List Int) (key val : Int) (w : World) (hk : RdI kv ks w) (hv : RdI vv vs w) :
    Calls Try.prog 19 #[.agg #[.bool lf, kv, vv], .int .i64 key, .int .i64 val] w (Ret fun v w' => ∃ u, v = .tuple #[u, .int .i64 (putN lf ks vs key val).2.2.2] ∧ ResN w.heap.size (putN lf ks vs key val).1 (putN lf ks vs key val).2.1 (putN lf ks vs key val).2.2.1 u w' ∧ Ext No w w') := by
  have hk0 := hk; have hv0 := hv
  obtain ⟨ka, kc, rfl, hkc, hkm, hc⟩ := hk0.opened
  obtain ⟨va, vc, rfl, hvc, hvm, hd⟩ := hv0.opened
  refine enter Try.func19 rfl 73 Try.ntmps19 rfl ?_
  refine k_seq ?_
  refine s_region ?_
  refine s_go rfl rfl rfl (g_box rfl rfl rfl) ?_
  rintro _ w1 ⟨b1, rfl, s1, t1, B1, x1⟩
  refine s_go rfl rfl rfl (g_alloc (P := Try.prog) rfl (zs := [.bool false, .slice none 0 0, .slice none 0 0]) (by kernel_rfl)) ?_
  rintro _ w2 ⟨b2, rfl, s2, t2, B2, x2⟩
  refine s_do rfl rfl rfl (d_assign rfl rfl) ?_
  refine s_end ?_
  refine k_seq ?_
  refine s_region ?_
  refine s_do rfl rfl rfl (d_loadAgg rfl rfl (vs := [.bool lf, .slice ka ks.length kc, .slice va vs.length vc]) (by kernel_rfl) (here ((B1.ext0 x2).part 0 3 _ rfl))) ?_
  refine s_call rfl rfl rfl rfl rfl (fun w => Try.call11 _ w) (may_c lf _ _ ks vs _ ((hk.ext0 x1).ext0 x2) ((hv.ext0 x1).ext0 x2)) ?_
  rintro _ w3 ⟨rfl, x3⟩
  have m3 := x3.size
  refine s_do rfl rfl rfl (d_assign rfl rfl) ?_
  refine s_end ?_
  refine k_seq ?_
  refine k_seq ?_
  refine s_region ?_
  refine s_do rfl rfl rfl (d_move rfl rfl) ?_
  refine s_do rfl rfl rfl (d_not rfl rfl) ?_
  refine s_end ?_
  refine k_cond rfl (fun h1 => ?_) (fun h1 => ?_)
  · -- yes: (!okB lf ks vs)
    have hok : okB lf ks vs = false := by simpa using h1
    refine k_seq ?_
    refine s_region ?_
    refine s_do rfl rfl rfl (d_build rfl rfl (out := [.bool false, .slice none 0 0, .slice none 0 0]) (by kernel_rfl)) ?_
    refine s_put rfl rfl (p_store rfl rfl rfl (vs := [.bool false, .slice none 0 0, .slice none 0 0]) rfl (by simp [Value.oneCell']) (by kernel_rfl) ((B2.ext0 x3)) (by simp) (out := [.bool false, .slice none 0 0, .slice none 0 0]) rfl) ?_
    rintro w4 ⟨B4, x4, t4⟩
    refine s_do rfl rfl rfl (d_assign rfl rfl) ?_
    refine s_end ?_
    refine k_ret ?_
    refine doneL rfl [.agg #[.bool false, .slice none 0 0, .slice none 0 0], .int .i64 22] ⟨⟨_, _, rfl, run_loadBlk (by kernel_rfl) (B4) (vs := [.bool false, .slice none 0 0, .slice none 0 0]) rfl⟩, ⟨rfl, trivial⟩⟩ (v := .tuple #[.agg #[.bool false, .slice none 0 0, .slice none 0 0], .int .i64 22]) rfl ?_
    have X := (((((Ext.refl No w).trans x1).trans x2).trans x3).trans_new x4 (fun i hi => by subst hi; omega))
    have e : putN lf ks vs key val = (false, [], [], 22) := by simp [putN, hok]
    rw [e]
    exact ⟨_, rfl, ResN.cast (ks := []) (vs := []) (ResN.zero _ _) (by simp) (by simp), X⟩
  · -- no: (!okB lf ks vs)
    have hok : okB lf ks vs = true := by simpa using h1
    obtain ⟨p1, p2, p3, p4, p5⟩ := okB_ok hok
    have hfl := findN_le ks key
    refine k_skip ?_
    refine k_seq ?_
    refine s_region ?_
    refine s_do rfl rfl rfl (d_move rfl rfl) ?_
    refine s_do rfl rfl rfl (d_move rfl rfl) ?_
    refine s_call rfl rfl rfl rfl rfl (fun w => Try.call29 _ w) (rfits_c _ _ _) ?_
    rintro _ w5 ⟨rfl, x5⟩
    have m5 := x5.size
    refine s_do rfl rfl rfl (d_assign rfl rfl) ?_
    refine s_end ?_
    refine k_seq ?_
    refine k_seq ?_
    refine s_region ?_
    refine s_do rfl rfl rfl (d_move rfl rfl) ?_
    refine s_do rfl rfl rfl (d_not rfl rfl) ?_
    refine s_end ?_
    refine k_cond rfl (fun h2 => ?_) (fun h2 => ?_)
    · -- yes: (!fitsB key val)
      have hft : fitsB key val = false := by simpa using h2
      refine k_seq ?_
      refine s_region ?_
      refine s_do rfl rfl rfl (d_build rfl rfl (out := [.bool false, .slice none 0 0, .slice none 0 0]) (by kernel_rfl)) ?_
      refine s_put rfl rfl (p_store rfl rfl rfl (vs := [.bool false, .slice none 0 0, .slice none 0 0]) rfl (by simp [Value.oneCell']) (by kernel_rfl) (((B2.ext0 x3).ext0 x5)) (by simp) (out := [.bool false, .slice none 0 0, .slice none 0 0]) rfl) ?_
      rintro w6 ⟨B6, x6, t6⟩
      refine s_do rfl rfl rfl (d_assign rfl rfl) ?_
      refine s_end ?_
      refine k_ret ?_
      refine doneL rfl [.agg #[.bool false, .slice none 0 0, .slice none 0 0], .int .i64 1] ⟨⟨_, _, rfl, run_loadBlk (by kernel_rfl) (B6) (vs := [.bool false, .slice none 0 0, .slice none 0 0]) rfl⟩, ⟨rfl, trivial⟩⟩ (v := .tuple #[.agg #[.bool false, .slice none 0 0, .slice none 0 0], .int .i64 1]) rfl ?_
      have X := ((((((Ext.refl No w).trans x1).trans x2).trans x3).trans x5).trans_new x6 (fun i hi => by subst hi; omega))
      have e : putN lf ks vs key val = (false, [], [], 1) := by simp [putN, hok, hft]
      rw [e]
      exact ⟨_, rfl, ResN.cast (ks := []) (vs := []) (ResN.zero _ _) (by simp) (by simp), X⟩
    · -- no: (!fitsB key val)
      have hft : fitsB key val = true := by simpa using h2
      refine k_skip ?_
      refine k_seq ?_
      refine s_region ?_
      refine s_do rfl rfl rfl (d_loadAgg rfl rfl (vs := [.bool lf, .slice ka ks.length kc, .slice va vs.length vc]) (by kernel_rfl) (here ((((B1.ext0 x2).ext0 x3).ext0 x5).part 0 3 _ rfl))) ?_
      refine s_do rfl rfl rfl (d_move rfl rfl) ?_
      refine s_call rfl rfl rfl rfl rfl (fun w => Try.call15 _ w) (rfind_c lf _ _ ks _ _ ((((hk.ext0 x1).ext0 x2).ext0 x3).ext0 x5)) ?_
      rintro _ w7 ⟨rfl, x7⟩
      have m7 := x7.size
      refine s_do rfl rfl rfl (d_move rfl rfl) ?_
      refine s_do rfl rfl rfl (d_extract rfl rfl rfl) ?_
      refine s_do rfl rfl rfl (d_extract rfl rfl rfl) ?_
      refine s_do rfl rfl rfl (d_assign rfl rfl) ?_
      refine s_do rfl rfl rfl (d_assign rfl rfl) ?_
      refine s_end ?_
      refine k_seq ?_
      refine s_region ?_
      refine s_do rfl rfl rfl (d_loadAgg rfl rfl (vs := [.bool lf, .slice ka ks.length kc, .slice va vs.length vc]) (by kernel_rfl) (here (((((B1.ext0 x2).ext0 x3).ext0 x5).ext0 x7).part 0 3 _ rfl))) ?_
      refine s_do rfl rfl rfl (d_move rfl rfl) ?_
      refine s_call rfl rfl rfl rfl rfl (fun w => Try.call33 _ w) (from_c _ _ _ ks vs 0 (findN ks key) _ _ _ (by simp) (by simp) (((((hk.ext0 x1).ext0 x2).ext0 x3).ext0 x5).ext0 x7) (((((hv.ext0 x1).ext0 x2).ext0 x3).ext0 x5).ext0 x7) (by first | omega | (simp <;> omega)) (by first | omega | (simp <;> omega)) (by first | omega | (simp <;> omega)) (by first | omega | (simp <;> omega)) (by first | omega | (simp <;> omega))) ?_
      rintro _ w8 ⟨⟨ga8, ca8, gb8, cb8, rfl, Oa8, Ob8, Ap8⟩, x8⟩
      have m8 := x8.size
      refine s_go rfl rfl rfl (g_alloc (P := Try.prog) rfl (zs := [.bool false, .slice none 0 0, .slice none 0 0]) (by kernel_rfl)) ?_
      rintro _ w9 ⟨b9, rfl, s9, t9, B9, x9⟩
      refine s_put rfl rfl (p_store rfl rfl rfl (vs := [.bool lf, .slice ga8 (((ks.drop 0).take ((findN ks key) - 0)).length) ca8, .slice gb8 (((vs.drop 0).take ((findN ks key) - 0)).length) cb8]) rfl (by simp [Value.oneCell']) (by kernel_rfl) (B9) (by simp) (out := [.bool lf, .slice ga8 (((ks.drop 0).take ((findN ks key) - 0)).length) ca8, .slice gb8 (((vs.drop 0).take ((findN ks key) - 0)).length) cb8]) rfl) ?_
      rintro w10 ⟨B10, x10, t10⟩
      refine s_end ?_
      refine k_seq ?_
      refine s_region ?_
      refine s_do rfl rfl rfl (d_field rfl (k := 1) (r := 1) (by kernel_rfl) rfl rfl) ?_
      refine s_do rfl rfl rfl (d_load rfl rfl (by kernel_rfl) (here (B10.cel 1 rfl))) ?_
      refine s_do rfl rfl rfl (d_move rfl rfl) ?_
      refine s_go rfl rfl rfl (g_oneI rfl rfl) ?_
      rintro _ w11 ⟨b11, rfl, s11, R11, x11⟩
      have m11 := x11.size
      have o12 := (((Oa8.ext0 x9).extb x10 (own_ne Oa8 (by omega))).ext0 x11)
      refine s_go rfl rfl rfl (g_appendI rfl rfl rfl (by simp) o12 R11 (by omega) (by first | omega | (simp <;> omega))) ?_
      rintro _ w12 ⟨g12, c12, rfl, O12, x12, y12⟩
      have m12 := x12.size
      refine s_do rfl rfl rfl (d_field rfl (k := 1) (r := 1) (by kernel_rfl) rfl rfl) ?_
      refine s_put rfl rfl (p_store rfl rfl rfl (vs := [.slice g12 ((((ks.drop 0).take ((findN ks key) - 0)) ++ ([key])).length) c12]) rfl (by simp [Value.oneCell']) (by kernel_rfl) (((B10.ext0 x11).extO x12 (own_ne Oa8 (by omega)))) (by simp) (out := [.bool lf, .slice g12 ((((ks.drop 0).take ((findN ks key) - 0)) ++ ([key])).length) c12, .slice gb8 (((vs.drop 0).take ((findN ks key) - 0)).length) cb8]) rfl) ?_
      rintro w13 ⟨B13, x13, t13⟩
      refine s_end ?_
      refine k_seq ?_
      refine s_region ?_
      refine s_do rfl rfl rfl (d_field rfl (k := 2) (r := 2) (by kernel_rfl) rfl rfl) ?_
      refine s_do rfl rfl rfl (d_load rfl rfl (by kernel_rfl) (here (B13.cel 2 rfl))) ?_
      refine s_do rfl rfl rfl (d_move rfl rfl) ?_
      refine s_go rfl rfl rfl (g_oneI rfl rfl) ?_
      rintro _ w14 ⟨b14, rfl, s14, R14, x14⟩
      have m14 := x14.size
      have o15 := ((((((Ob8.ext0 x9).extb x10 (own_ne Ob8 (by omega))).ext0 x11).extO x12 Ap8).extb x13 (own_ne Ob8 (by omega))).ext0 x14)
      refine s_go rfl rfl rfl (g_appendI rfl rfl rfl (by simp) o15 R14 (by omega) (by first | omega | (simp <;> omega))) ?_
      rintro _ w15 ⟨g15, c15, rfl, O15, x15, y15⟩
      have m15 := x15.size
      refine s_do rfl rfl rfl (d_field rfl (k := 2) (r := 2) (by kernel_rfl) rfl rfl) ?_
      refine s_put rfl rfl (p_store rfl rfl rfl (vs := [.slice g15 ((((vs.drop 0).take ((findN ks key) - 0)) ++ ([val])).length) c15]) rfl (by simp [Value.oneCell']) (by kernel_rfl) (((B13.ext0 x14).extO x15 (own_ne Ob8 (by omega)))) (by simp) (out := [.bool lf, .slice g12 ((((ks.drop 0).take ((findN ks key) - 0)) ++ ([key])).length) c12, .slice g15 ((((vs.drop 0).take ((findN ks key) - 0)) ++ ([val])).length) c15]) rfl) ?_
      rintro w16 ⟨B16, x16, t16⟩
      refine s_end ?_
      refine k_seq ?_
      refine k_seq ?_
      refine s_region ?_
      refine s_do rfl rfl rfl (d_move rfl rfl) ?_
      refine s_end ?_
      refine k_dec rfl (fun h3 => ?_) (fun h3 => ?_)
      · -- yes: ks[findN ks key]? = some key
        have hat := h3
        have hfs := (List.getElem?_eq_some_iff.1 h3).1
        refine s_region ?_
        refine s_do rfl rfl rfl (d_move rfl rfl) ?_
        refine s_do rfl rfl rfl (d_add64 rfl rfl rfl (r := (findN ks key : Int) + 1) (by omega) (by omega)) ?_
        refine s_do rfl rfl rfl (d_assign rfl rfl) ?_
        refine s_end ?_
        refine k_seq ?_
        refine s_region ?_
        refine s_do rfl rfl rfl (d_loadAgg rfl rfl (vs := [.bool lf, .slice ka ks.length kc, .slice va vs.length vc]) (by kernel_rfl) (here ((((((((((((((B1.ext0 x2).ext0 x3).ext0 x5).ext0 x7).ext0 x8).ext0 x9).ext x10 (show ¬ (b1 = b9) by omega)).ext0 x11).extO x12 (own_ne Oa8 (by omega))).ext x13 (show ¬ (b1 = b9) by omega)).ext0 x14).extO x15 (own_ne Ob8 (by omega))).ext x16 (show ¬ (b1 = b9) by omega)).part 0 3 _ rfl))) ?_
        refine s_do rfl rfl rfl (d_move rfl rfl) ?_
        refine s_do rfl rfl rfl (d_field rfl (k := 1) (r := 1) (by kernel_rfl) rfl rfl) ?_
        refine s_do rfl rfl rfl (d_load rfl rfl (by kernel_rfl) (here ((((((((((((((B1.ext0 x2).ext0 x3).ext0 x5).ext0 x7).ext0 x8).ext0 x9).ext x10 (show ¬ (b1 = b9) by omega)).ext0 x11).extO x12 (own_ne Oa8 (by omega))).ext x13 (show ¬ (b1 = b9) by omega)).ext0 x14).extO x15 (own_ne Ob8 (by omega))).ext x16 (show ¬ (b1 = b9) by omega)).cel 1 rfl))) ?_
        refine s_do rfl rfl rfl (d_len rfl (z := 1) (by kernel_rfl) rfl) ?_
        refine s_call rfl rfl rfl rfl rfl (fun w => Try.call33 _ w) (from_c _ _ _ ks vs (findN ks key + 1) ks.length _ _ _ (by simp) (by simp) (hk.ext0 (((((((((((((((Ext.refl No w).trans x1).trans x2).trans x3).trans x5).trans x7).trans x8).trans x9).trans_new x10 (fun i hi => by subst hi; omega)).trans x11).transO x12 o12 (by omega)).trans_new x13 (fun i hi => by subst hi; omega)).trans x14).transO x15 o15 (by omega)).trans_new x16 (fun i hi => by subst hi; omega))) (hv.ext0 (((((((((((((((Ext.refl No w).trans x1).trans x2).trans x3).trans x5).trans x7).trans x8).trans x9).trans_new x10 (fun i hi => by subst hi; omega)).trans x11).transO x12 o12 (by omega)).trans_new x13 (fun i hi => by subst hi; omega)).trans x14).transO x15 o15 (by omega)).trans_new x16 (fun i hi => by subst hi; omega))) (by first | omega | (simp <;> omega)) (by first | omega | (simp <;> omega)) (by first | omega | (simp <;> omega)) (by first | omega | (simp <;> omega)) (by first | omega | (simp <;> omega))) ?_
        rintro _ w17 ⟨⟨ga17, ca17, gb17, cb17, rfl, Oa17, Ob17, Ap17⟩, x17⟩
        have m17 := x17.size
        refine s_go rfl rfl rfl (g_alloc (P := Try.prog) rfl (zs := [.bool false, .slice none 0 0, .slice none 0 0]) (by kernel_rfl)) ?_
        rintro _ w18 ⟨b18, rfl, s18, t18, B18, x18⟩
        refine s_put rfl rfl (p_store rfl rfl rfl (vs := [.bool lf, .slice ga17 (((ks.drop (findN ks key + 1)).take (ks.length - (findN ks key + 1))).length) ca17, .slice gb17 (((vs.drop (findN ks key + 1)).take (ks.length - (findN ks key + 1))).length) cb17]) rfl (by simp [Value.oneCell']) (by kernel_rfl) (B18) (by simp) (out := [.bool lf, .slice ga17 (((ks.drop (findN ks key + 1)).take (ks.length - (findN ks key + 1))).length) ca17, .slice gb17 (((vs.drop (findN ks key + 1)).take (ks.length - (findN ks key + 1))).length) cb17]) rfl) ?_
        rintro w19 ⟨B19, x19, t19⟩
        refine s_end ?_
        refine k_seq ?_
        refine s_region ?_
        refine s_do rfl rfl rfl (d_field rfl (k := 1) (r := 1) (by kernel_rfl) rfl rfl) ?_
        refine s_do rfl rfl rfl (d_load rfl rfl (by kernel_rfl) (here ((((B16.ext0 x17).ext0 x18).ext x19 (show ¬ (b9 = b18) by omega)).cel 1 rfl))) ?_
        refine s_do rfl rfl rfl (d_field rfl (k := 1) (r := 1) (by kernel_rfl) rfl rfl) ?_
        refine s_do rfl rfl rfl (d_load rfl rfl (by kernel_rfl) (here (B19.cel 1 rfl))) ?_
        have o20 := (((((((O12.extb x13 (ne_grown y12 (own_ne Oa8 (by omega)) (by omega))).ext0 x14).extO x15 ((apart_grown y12 Ap8 (((Ob8.ext0 x9).extb x10 (own_ne Ob8 (by omega))).ext0 x11))).symm).extb x16 (ne_grown y12 (own_ne Oa8 (by omega)) (by omega))).ext0 x17).ext0 x18).extb x19 (own_ne O12 (by omega)))
        refine s_go rfl rfl rfl (g_appendI rfl rfl rfl (by simp) o20 ((Oa17.ext0 x18).extb x19 (own_ne Oa17 (by omega))).rd (by omega) (by first | omega | (simp <;> omega))) ?_
        rintro _ w20 ⟨g20, c20, rfl, O20, x20, y20⟩
        have m20 := x20.size
        refine s_do rfl rfl rfl (d_field rfl (k := 1) (r := 1) (by kernel_rfl) rfl rfl) ?_
        refine s_put rfl rfl (p_store rfl rfl rfl (vs := [.slice g20 (((((ks.drop 0).take ((findN ks key) - 0)) ++ ([key])) ++ ((ks.drop (findN ks key + 1)).take (ks.length - (findN ks key + 1)))).length) c20]) rfl (by simp [Value.oneCell']) (by kernel_rfl) (((((B16.ext0 x17).ext0 x18).ext x19 (show ¬ (b9 = b18) by omega)).extO x20 (ne_grown y12 (own_ne Oa8 (by omega)) (by omega)))) (by simp) (out := [.bool lf, .slice g20 (((((ks.drop 0).take ((findN ks key) - 0)) ++ ([key])) ++ ((ks.drop (findN ks key + 1)).take (ks.length - (findN ks key + 1)))).length) c20, .slice g15 ((((vs.drop 0).take ((findN ks key) - 0)) ++ ([val])).length) c15]) rfl) ?_
        rintro w21 ⟨B21, x21, t21⟩
        refine s_end ?_
        refine k_seq ?_
        refine s_region ?_
        refine s_do rfl rfl rfl (d_field rfl (k := 2) (r := 2) (by kernel_rfl) rfl rfl) ?_
        refine s_do rfl rfl rfl (d_load rfl rfl (by kernel_rfl) (here (B21.cel 2 rfl))) ?_
        refine s_do rfl rfl rfl (d_field rfl (k := 2) (r := 2) (by kernel_rfl) rfl rfl) ?_
        refine s_do rfl rfl rfl (d_load rfl rfl (by kernel_rfl) (here (((B19.extO x20 (own_ne O12 (by omega))).ext x21 (show ¬ (b18 = b9) by omega)).cel 2 rfl))) ?_
        have o22 := ((((((O15.extb x16 (ne_grown y15 (own_ne Ob8 (by omega)) (by omega))).ext0 x17).ext0 x18).extb x19 (own_ne O15 (by omega))).extO x20 ((apart_grown y15 ((apart_grown y12 Ap8 (((Ob8.ext0 x9).extb x10 (own_ne Ob8 (by omega))).ext0 x11))).symm ((O12.extb x13 (ne_grown y12 (own_ne Oa8 (by omega)) (by omega))).ext0 x14))).symm).extb x21 (ne_grown y15 (own_ne Ob8 (by omega)) (by omega)))
        refine s_go rfl rfl rfl (g_appendI rfl rfl rfl (by simp) o22 ((((Ob17.ext0 x18).extb x19 (own_ne Ob17 (by omega))).extO x20 (OwnI.apart O12 Ob17 (by omega))).extb x21 (own_ne Ob17 (by omega))).rd (by omega) (by first | omega | (simp <;> omega))) ?_
        rintro _ w22 ⟨g22, c22, rfl, O22, x22, y22⟩
        have m22 := x22.size
        refine s_do rfl rfl rfl (d_field rfl (k := 2) (r := 2) (by kernel_rfl) rfl rfl) ?_
        refine s_put rfl rfl (p_store rfl rfl rfl (vs := [.slice g22 (((((vs.drop 0).take ((findN ks key) - 0)) ++ ([val])) ++ ((vs.drop (findN ks key + 1)).take (ks.length - (findN ks key + 1)))).length) c22]) rfl (by simp [Value.oneCell']) (by kernel_rfl) ((B21.extO x22 (ne_grown y15 (own_ne Ob8 (by omega)) (by omega)))) (by simp) (out := [.bool lf, .slice g20 (((((ks.drop 0).take ((findN ks key) - 0)) ++ ([key])) ++ ((ks.drop (findN ks key + 1)).take (ks.length - (findN ks key + 1)))).length) c20, .slice g22 (((((vs.drop 0).take ((findN ks key) - 0)) ++ ([val])) ++ ((vs.drop (findN ks key + 1)).take (ks.length - (findN ks key + 1)))).length) c22]) rfl) ?_
        rintro w23 ⟨B23, x23, t23⟩
        refine s_end ?_
        refine k_seq ?_
        refine k_seq ?_
        refine s_region ?_
        refine s_do rfl rfl rfl (d_field rfl (k := 1) (r := 1) (by kernel_rfl) rfl rfl) ?_
        refine s_do rfl rfl rfl (d_load rfl rfl (by kernel_rfl) (here (B23.cel 1 rfl))) ?_
        refine s_do rfl rfl rfl (d_len rfl (z := 1) (by kernel_rfl) rfl) ?_
        refine s_do rfl rfl rfl (d_gtr rfl rfl rfl) ?_
        refine s_end ?_
        refine k_dec rfl (fun h4 => ?_) (fun h4 => ?_)
        · exfalso; simp at h4; omega
        · -- no: (8 : Int) < (((((ks.drop 0).take ((findN ks key) - 0)) ++ ([key])) ++ ((ks.drop (findN ks key + 1)).take (ks.length - (findN ks key + 1)))).length : Int)
          refine k_skip ?_
          refine k_seq ?_
          refine s_region ?_
          refine s_do rfl rfl rfl (d_loadAgg rfl rfl (vs := [.bool lf, .slice g20 (((((ks.drop 0).take ((findN ks key) - 0)) ++ ([key])) ++ ((ks.drop (findN ks key + 1)).take (ks.length - (findN ks key + 1)))).length) c20, .slice g22 (((((vs.drop 0).take ((findN ks key) - 0)) ++ ([val])) ++ ((vs.drop (findN ks key + 1)).take (ks.length - (findN ks key + 1)))).length) c22]) (by kernel_rfl) (here (B23.part 0 3 _ rfl))) ?_
          refine s_put rfl rfl (p_store rfl rfl rfl (vs := [.bool lf, .slice g20 (((((ks.drop 0).take ((findN ks key) - 0)) ++ ([key])) ++ ((ks.drop (findN ks key + 1)).take (ks.length - (findN ks key + 1)))).length) c20, .slice g22 (((((vs.drop 0).take ((findN ks key) - 0)) ++ ([val])) ++ ((vs.drop (findN ks key + 1)).take (ks.length - (findN ks key + 1)))).length) c22]) rfl (by simp [Value.oneCell']) (by kernel_rfl) ((((((((((((((((((((B2.ext0 x3).ext0 x5).ext0 x7).ext0 x8).ext0 x9).ext x10 (show ¬ (b2 = b9) by omega)).ext0 x11).extO x12 (own_ne Oa8 (by omega))).ext x13 (show ¬ (b2 = b9) by omega)).ext0 x14).extO x15 (own_ne Ob8 (by omega))).ext x16 (show ¬ (b2 = b9) by omega)).ext0 x17).ext0 x18).ext x19 (show ¬ (b2 = b18) by omega)).extO x20 (ne_grown y12 (own_ne Oa8 (by omega)) (by omega))).ext x21 (show ¬ (b2 = b9) by omega)).extO x22 (ne_grown y15 (own_ne Ob8 (by omega)) (by omega))).ext x23 (show ¬ (b2 = b9) by omega))) (by simp) (out := [.bool lf, .slice g20 (((((ks.drop 0).take ((findN ks key) - 0)) ++ ([key])) ++ ((ks.drop (findN ks key + 1)).take (ks.length - (findN ks key + 1)))).length) c20, .slice g22 (((((vs.drop 0).take ((findN ks key) - 0)) ++ ([val])) ++ ((vs.drop (findN ks key + 1)).take (ks.length - (findN ks key + 1)))).length) c22]) rfl) ?_
          rintro w24 ⟨B24, x24, t24⟩
          refine s_do rfl rfl rfl (d_assign rfl rfl) ?_
          refine s_end ?_
          refine k_ret ?_
          refine doneL rfl [.agg #[.bool lf, .slice g20 (((((ks.drop 0).take ((findN ks key) - 0)) ++ ([key])) ++ ((ks.drop (findN ks key + 1)).take (ks.length - (findN ks key + 1)))).length) c20, .slice g22 (((((vs.drop 0).take ((findN ks key) - 0)) ++ ([val])) ++ ((vs.drop (findN ks key + 1)).take (ks.length - (findN ks key + 1)))).length) c22], .int .i64 0] ⟨⟨_, _, rfl, run_loadBlk (by kernel_rfl) (B24) (vs := [.bool lf, .slice g20 (((((ks.drop 0).take ((findN ks key) - 0)) ++ ([key])) ++ ((ks.drop (findN ks key + 1)).take (ks.length - (findN ks key + 1)))).length) c20, .slice g22 (((((vs.drop 0).take ((findN ks key) - 0)) ++ ([val])) ++ ((vs.drop (findN ks key + 1)).take (ks.length - (findN ks key + 1)))).length) c22]) rfl⟩, ⟨rfl, trivial⟩⟩ (v := .tuple #[.agg #[.bool lf, .slice g20 (((((ks.drop 0).take ((findN ks key) - 0)) ++ ([key])) ++ ((ks.drop (findN ks key + 1)).take (ks.length - (findN ks key + 1)))).length) c20, .slice g22 (((((vs.drop 0).take ((findN ks key) - 0)) ++ ([val])) ++ ((vs.drop (findN ks key + 1)).take (ks.length - (findN ks key + 1)))).length) c22], .int .i64 0]) rfl ?_
          have X := (((((((((((((((((((((((Ext.refl No w).trans x1).trans x2).trans x3).trans x5).trans x7).trans x8).trans x9).trans_new x10 (fun i hi => by subst hi; omega)).trans x11).transO x12 o12 (by omega)).trans_new x13 (fun i hi => by subst hi; omega)).trans x14).transO x15 o15 (by omega)).trans_new x16 (fun i hi => by subst hi; omega)).trans x17).trans x18).trans_new x19 (fun i hi => by subst hi; omega)).transO x20 o20 (by omega)).trans_new x21 (fun i hi => by subst hi; omega)).transO x22 o22 (by omega)).trans_new x23 (fun i hi => by subst hi; omega)).trans_new x24 (fun i hi => by subst hi; omega))
          have e : putN lf ks vs key val = (lf, ks, vs.set (findN ks key) val, 0) := by simp [putN, hok, hft, hat]
          rw [e]
          have td1 := td ks (findN ks key + 1) ks.length (by omega); have td2 := td vs (findN ks key + 1) ks.length (by omega)
          exact ⟨_, rfl, ResN.cast (ks := (((ks.drop 0).take ((findN ks key) - 0)) ++ ([key])) ++ ((ks.drop (findN ks key + 1)).take (ks.length - (findN ks key + 1)))) (vs := (((vs.drop 0).take ((findN ks key) - 0)) ++ ([val])) ++ ((vs.drop (findN ks key + 1)).take (ks.length - (findN ks key + 1)))) (ResN.mk (((((O20.extb x21 (ne_grown y20 (ne_grown y12 (own_ne Oa8 (by omega)) (by omega)) (by omega))).extO x22 ((apart_grown y20 ((apart_grown y15 ((apart_grown y12 Ap8 (((Ob8.ext0 x9).extb x10 (own_ne Ob8 (by omega))).ext0 x11))).symm ((O12.extb x13 (ne_grown y12 (own_ne Oa8 (by omega)) (by omega))).ext0 x14))).symm ((((O15.extb x16 (ne_grown y15 (own_ne Ob8 (by omega)) (by omega))).ext0 x17).ext0 x18).extb x19 (own_ne O15 (by omega))))).symm).extb x23 (ne_grown y20 (ne_grown y12 (own_ne Oa8 (by omega)) (by omega)) (by omega))).extb x24 (ne_grown y20 (ne_grown y12 (own_ne Oa8 (by omega)) (by omega)) (by omega))).base (by omega)) (((O22.extb x23 (ne_grown y22 (ne_grown y15 (own_ne Ob8 (by omega)) (by omega)) (by omega))).extb x24 (ne_grown y22 (ne_grown y15 (own_ne Ob8 (by omega)) (by omega)) (by omega))).base (by omega)) ((apart_grown y22 ((apart_grown y20 ((apart_grown y15 ((apart_grown y12 Ap8 (((Ob8.ext0 x9).extb x10 (own_ne Ob8 (by omega))).ext0 x11))).symm ((O12.extb x13 (ne_grown y12 (own_ne Oa8 (by omega)) (by omega))).ext0 x14))).symm ((((O15.extb x16 (ne_grown y15 (own_ne Ob8 (by omega)) (by omega))).ext0 x17).ext0 x18).extb x19 (own_ne O15 (by omega))))).symm (O20.extb x21 (ne_grown y20 (ne_grown y12 (own_ne Oa8 (by omega)) (by omega)) (by omega))))).symm) (by simp [td1, ← get_split _ _ _ hat]) (by rw [set_split _ _ _ (by omega)]; simp [td2]), X⟩
      · -- no: ks[findN ks key]? = some key
        have hat := h3
        refine k_skip ?_
        refine k_seq ?_
        refine s_region ?_
        refine s_do rfl rfl rfl (d_loadAgg rfl rfl (vs := [.bool lf, .slice ka ks.length kc, .slice va vs.length vc]) (by kernel_rfl) (here ((((((((((((((B1.ext0 x2).ext0 x3).ext0 x5).ext0 x7).ext0 x8).ext0 x9).ext x10 (show ¬ (b1 = b9) by omega)).ext0 x11).extO x12 (own_ne Oa8 (by omega))).ext x13 (show ¬ (b1 = b9) by omega)).ext0 x14).extO x15 (own_ne Ob8 (by omega))).ext x16 (show ¬ (b1 = b9) by omega)).part 0 3 _ rfl))) ?_
        refine s_do rfl rfl rfl (d_move rfl rfl) ?_
        refine s_do rfl rfl rfl (d_field rfl (k := 1) (r := 1) (by kernel_rfl) rfl rfl) ?_
        refine s_do rfl rfl rfl (d_load rfl rfl (by kernel_rfl) (here ((((((((((((((B1.ext0 x2).ext0 x3).ext0 x5).ext0 x7).ext0 x8).ext0 x9).ext x10 (show ¬ (b1 = b9) by omega)).ext0 x11).extO x12 (own_ne Oa8 (by omega))).ext x13 (show ¬ (b1 = b9) by omega)).ext0 x14).extO x15 (own_ne Ob8 (by omega))).ext x16 (show ¬ (b1 = b9) by omega)).cel 1 rfl))) ?_
        refine s_do rfl rfl rfl (d_len rfl (z := 1) (by kernel_rfl) rfl) ?_
        refine s_call rfl rfl rfl rfl rfl (fun w => Try.call33 _ w) (from_c _ _ _ ks vs (findN ks key) ks.length _ _ _ (by simp) (by simp) (hk.ext0 (((((((((((((((Ext.refl No w).trans x1).trans x2).trans x3).trans x5).trans x7).trans x8).trans x9).trans_new x10 (fun i hi => by subst hi; omega)).trans x11).transO x12 o12 (by omega)).trans_new x13 (fun i hi => by subst hi; omega)).trans x14).transO x15 o15 (by omega)).trans_new x16 (fun i hi => by subst hi; omega))) (hv.ext0 (((((((((((((((Ext.refl No w).trans x1).trans x2).trans x3).trans x5).trans x7).trans x8).trans x9).trans_new x10 (fun i hi => by subst hi; omega)).trans x11).transO x12 o12 (by omega)).trans_new x13 (fun i hi => by subst hi; omega)).trans x14).transO x15 o15 (by omega)).trans_new x16 (fun i hi => by subst hi; omega))) (by first | omega | (simp <;> omega)) (by first | omega | (simp <;> omega)) (by first | omega | (simp <;> omega)) (by first | omega | (simp <;> omega)) (by first | omega | (simp <;> omega))) ?_
        rintro _ w25 ⟨⟨ga25, ca25, gb25, cb25, rfl, Oa25, Ob25, Ap25⟩, x25⟩
        have m25 := x25.size
        refine s_go rfl rfl rfl (g_alloc (P := Try.prog) rfl (zs := [.bool false, .slice none 0 0, .slice none 0 0]) (by kernel_rfl)) ?_
        rintro _ w26 ⟨b26, rfl, s26, t26, B26, x26⟩
        refine s_put rfl rfl (p_store rfl rfl rfl (vs := [.bool lf, .slice ga25 (((ks.drop (findN ks key)).take (ks.length - (findN ks key))).length) ca25, .slice gb25 (((vs.drop (findN ks key)).take (ks.length - (findN ks key))).length) cb25]) rfl (by simp [Value.oneCell']) (by kernel_rfl) (B26) (by simp) (out := [.bool lf, .slice ga25 (((ks.drop (findN ks key)).take (ks.length - (findN ks key))).length) ca25, .slice gb25 (((vs.drop (findN ks key)).take (ks.length - (findN ks key))).length) cb25]) rfl) ?_
        rintro w27 ⟨B27, x27, t27⟩
        refine s_end ?_
        refine k_seq ?_
        refine s_region ?_
        refine s_do rfl rfl rfl (d_field rfl (k := 1) (r := 1) (by kernel_rfl) rfl rfl) ?_
        refine s_do rfl rfl rfl (d_load rfl rfl (by kernel_rfl) (here ((((B16.ext0 x25).ext0 x26).ext x27 (show ¬ (b9 = b26) by omega)).cel 1 rfl))) ?_
        refine s_do rfl rfl rfl (d_field rfl (k := 1) (r := 1) (by kernel_rfl) rfl rfl) ?_
        refine s_do rfl rfl rfl (d_load rfl rfl (by kernel_rfl) (here (B27.cel 1 rfl))) ?_
        have o28 := (((((((O12.extb x13 (ne_grown y12 (own_ne Oa8 (by omega)) (by omega))).ext0 x14).extO x15 ((apart_grown y12 Ap8 (((Ob8.ext0 x9).extb x10 (own_ne Ob8 (by omega))).ext0 x11))).symm).extb x16 (ne_grown y12 (own_ne Oa8 (by omega)) (by omega))).ext0 x25).ext0 x26).extb x27 (own_ne O12 (by omega)))
        refine s_go rfl rfl rfl (g_appendI rfl rfl rfl (by simp) o28 ((Oa25.ext0 x26).extb x27 (own_ne Oa25 (by omega))).rd (by omega) (by first | omega | (simp <;> omega))) ?_
        rintro _ w28 ⟨g28, c28, rfl, O28, x28, y28⟩
        have m28 := x28.size
        refine s_do rfl rfl rfl (d_field rfl (k := 1) (r := 1) (by kernel_rfl) rfl rfl) ?_
        refine s_put rfl rfl (p_store rfl rfl rfl (vs := [.slice g28 (((((ks.drop 0).take ((findN ks key) - 0)) ++ ([key])) ++ ((ks.drop (findN ks key)).take (ks.length - (findN ks key)))).length) c28]) rfl (by simp [Value.oneCell']) (by kernel_rfl) (((((B16.ext0 x25).ext0 x26).ext x27 (show ¬ (b9 = b26) by omega)).extO x28 (ne_grown y12 (own_ne Oa8 (by omega)) (by omega)))) (by simp) (out := [.bool lf, .slice g28 (((((ks.drop 0).take ((findN ks key) - 0)) ++ ([key])) ++ ((ks.drop (findN ks key)).take (ks.length - (findN ks key)))).length) c28, .slice g15 ((((vs.drop 0).take ((findN ks key) - 0)) ++ ([val])).length) c15]) rfl) ?_
        rintro w29 ⟨B29, x29, t29⟩
        refine s_end ?_
        refine k_seq ?_
        refine s_region ?_
        refine s_do rfl rfl rfl (d_field rfl (k := 2) (r := 2) (by kernel_rfl) rfl rfl) ?_
        refine s_do rfl rfl rfl (d_load rfl rfl (by kernel_rfl) (here (B29.cel 2 rfl))) ?_
        refine s_do rfl rfl rfl (d_field rfl (k := 2) (r := 2) (by kernel_rfl) rfl rfl) ?_
        refine s_do rfl rfl rfl (d_load rfl rfl (by kernel_rfl) (here (((B27.extO x28 (own_ne O12 (by omega))).ext x29 (show ¬ (b26 = b9) by omega)).cel 2 rfl))) ?_
        have o30 := ((((((O15.extb x16 (ne_grown y15 (own_ne Ob8 (by omega)) (by omega))).ext0 x25).ext0 x26).extb x27 (own_ne O15 (by omega))).extO x28 ((apart_grown y15 ((apart_grown y12 Ap8 (((Ob8.ext0 x9).extb x10 (own_ne Ob8 (by omega))).ext0 x11))).symm ((O12.extb x13 (ne_grown y12 (own_ne Oa8 (by omega)) (by omega))).ext0 x14))).symm).extb x29 (ne_grown y15 (own_ne Ob8 (by omega)) (by omega)))
        refine s_go rfl rfl rfl (g_appendI rfl rfl rfl (by simp) o30 ((((Ob25.ext0 x26).extb x27 (own_ne Ob25 (by omega))).extO x28 (OwnI.apart O12 Ob25 (by omega))).extb x29 (own_ne Ob25 (by omega))).rd (by omega) (by first | omega | (simp <;> omega))) ?_
        rintro _ w30 ⟨g30, c30, rfl, O30, x30, y30⟩
        have m30 := x30.size
        refine s_do rfl rfl rfl (d_field rfl (k := 2) (r := 2) (by kernel_rfl) rfl rfl) ?_
        refine s_put rfl rfl (p_store rfl rfl rfl (vs := [.slice g30 (((((vs.drop 0).take ((findN ks key) - 0)) ++ ([val])) ++ ((vs.drop (findN ks key)).take (ks.length - (findN ks key)))).length) c30]) rfl (by simp [Value.oneCell']) (by kernel_rfl) ((B29.extO x30 (ne_grown y15 (own_ne Ob8 (by omega)) (by omega)))) (by simp) (out := [.bool lf, .slice g28 (((((ks.drop 0).take ((findN ks key) - 0)) ++ ([key])) ++ ((ks.drop (findN ks key)).take (ks.length - (findN ks key)))).length) c28, .slice g30 (((((vs.drop 0).take ((findN ks key) - 0)) ++ ([val])) ++ ((vs.drop (findN ks key)).take (ks.length - (findN ks key)))).length) c30]) rfl) ?_
        rintro w31 ⟨B31, x31, t31⟩
        refine s_end ?_
        refine k_seq ?_
        refine k_seq ?_
        refine s_region ?_
        refine s_do rfl rfl rfl (d_field rfl (k := 1) (r := 1) (by kernel_rfl) rfl rfl) ?_
        refine s_do rfl rfl rfl (d_load rfl rfl (by kernel_rfl) (here (B31.cel 1 rfl))) ?_
        refine s_do rfl rfl rfl (d_len rfl (z := 1) (by kernel_rfl) rfl) ?_
        refine s_do rfl rfl rfl (d_gtr rfl rfl rfl) ?_
        refine s_end ?_
        refine k_dec rfl (fun h5 => ?_) (fun h5 => ?_)
        · -- yes: (8 : Int) < (((((ks.drop 0).take ((findN ks key) - 0)) ++ ([key])) ++ ((ks.drop (findN ks key)).take (ks.length - (findN ks key)))).length : Int)
          refine k_seq ?_
          refine s_region ?_
          refine s_do rfl rfl rfl (d_build rfl rfl (out := [.bool false, .slice none 0 0, .slice none 0 0]) (by kernel_rfl)) ?_
          refine s_put rfl rfl (p_store rfl rfl rfl (vs := [.bool false, .slice none 0 0, .slice none 0 0]) rfl (by simp [Value.oneCell']) (by kernel_rfl) ((((((((((((((((((((B2.ext0 x3).ext0 x5).ext0 x7).ext0 x8).ext0 x9).ext x10 (show ¬ (b2 = b9) by omega)).ext0 x11).extO x12 (own_ne Oa8 (by omega))).ext x13 (show ¬ (b2 = b9) by omega)).ext0 x14).extO x15 (own_ne Ob8 (by omega))).ext x16 (show ¬ (b2 = b9) by omega)).ext0 x25).ext0 x26).ext x27 (show ¬ (b2 = b26) by omega)).extO x28 (ne_grown y12 (own_ne Oa8 (by omega)) (by omega))).ext x29 (show ¬ (b2 = b9) by omega)).extO x30 (ne_grown y15 (own_ne Ob8 (by omega)) (by omega))).ext x31 (show ¬ (b2 = b9) by omega))) (by simp) (out := [.bool false, .slice none 0 0, .slice none 0 0]) rfl) ?_
          rintro w32 ⟨B32, x32, t32⟩
          refine s_do rfl rfl rfl (d_assign rfl rfl) ?_
          refine s_end ?_
          refine k_ret ?_
          refine doneL rfl [.agg #[.bool false, .slice none 0 0, .slice none 0 0], .int .i64 15] ⟨⟨_, _, rfl, run_loadBlk (by kernel_rfl) (B32) (vs := [.bool false, .slice none 0 0, .slice none 0 0]) rfl⟩, ⟨rfl, trivial⟩⟩ (v := .tuple #[.agg #[.bool false, .slice none 0 0, .slice none 0 0], .int .i64 15]) rfl ?_
          have X := (((((((((((((((((((((((Ext.refl No w).trans x1).trans x2).trans x3).trans x5).trans x7).trans x8).trans x9).trans_new x10 (fun i hi => by subst hi; omega)).trans x11).transO x12 o12 (by omega)).trans_new x13 (fun i hi => by subst hi; omega)).trans x14).transO x15 o15 (by omega)).trans_new x16 (fun i hi => by subst hi; omega)).trans x25).trans x26).trans_new x27 (fun i hi => by subst hi; omega)).transO x28 o28 (by omega)).trans_new x29 (fun i hi => by subst hi; omega)).transO x30 o30 (by omega)).trans_new x31 (fun i hi => by subst hi; omega)).trans_new x32 (fun i hi => by subst hi; omega))
          have e : putN lf ks vs key val = (false, [], [], 15) := by simp [putN, hok, hft, hat]; simp at h5; omega
          rw [e]
          exact ⟨_, rfl, ResN.cast (ks := []) (vs := []) (ResN.zero _ _) (by simp) (by simp), X⟩
        · -- no: (8 : Int) < (((((ks.drop 0).take ((findN ks key) - 0)) ++ ([key])) ++ ((ks.drop (findN ks key)).take (ks.length - (findN ks key)))).length : Int)
          refine k_skip ?_
          refine k_seq ?_
          refine s_region ?_
          refine s_do rfl rfl rfl (d_loadAgg rfl rfl (vs := [.bool lf, .slice g28 (((((ks.drop 0).take ((findN ks key) - 0)) ++ ([key])) ++ ((ks.drop (findN ks key)).take (ks.length - (findN ks key)))).length) c28, .slice g30 (((((vs.drop 0).take ((findN ks key) - 0)) ++ ([val])) ++ ((vs.drop (findN ks key)).take (ks.length - (findN ks key)))).length) c30]) (by kernel_rfl) (here (B31.part 0 3 _ rfl))) ?_
          refine s_put rfl rfl (p_store rfl rfl rfl (vs := [.bool lf, .slice g28 (((((ks.drop 0).take ((findN ks key) - 0)) ++ ([key])) ++ ((ks.drop (findN ks key)).take (ks.length - (findN ks key)))).length) c28, .slice g30 (((((vs.drop 0).take ((findN ks key) - 0)) ++ ([val])) ++ ((vs.drop (findN ks key)).take (ks.length - (findN ks key)))).length) c30]) rfl (by simp [Value.oneCell']) (by kernel_rfl) ((((((((((((((((((((B2.ext0 x3).ext0 x5).ext0 x7).ext0 x8).ext0 x9).ext x10 (show ¬ (b2 = b9) by omega)).ext0 x11).extO x12 (own_ne Oa8 (by omega))).ext x13 (show ¬ (b2 = b9) by omega)).ext0 x14).extO x15 (own_ne Ob8 (by omega))).ext x16 (show ¬ (b2 = b9) by omega)).ext0 x25).ext0 x26).ext x27 (show ¬ (b2 = b26) by omega)).extO x28 (ne_grown y12 (own_ne Oa8 (by omega)) (by omega))).ext x29 (show ¬ (b2 = b9) by omega)).extO x30 (ne_grown y15 (own_ne Ob8 (by omega)) (by omega))).ext x31 (show ¬ (b2 = b9) by omega))) (by simp) (out := [.bool lf, .slice g28 (((((ks.drop 0).take ((findN ks key) - 0)) ++ ([key])) ++ ((ks.drop (findN ks key)).take (ks.length - (findN ks key)))).length) c28, .slice g30 (((((vs.drop 0).take ((findN ks key) - 0)) ++ ([val])) ++ ((vs.drop (findN ks key)).take (ks.length - (findN ks key)))).length) c30]) rfl) ?_
          rintro w33 ⟨B33, x33, t33⟩
          refine s_do rfl rfl rfl (d_assign rfl rfl) ?_
          refine s_end ?_
          refine k_ret ?_
          refine doneL rfl [.agg #[.bool lf, .slice g28 (((((ks.drop 0).take ((findN ks key) - 0)) ++ ([key])) ++ ((ks.drop (findN ks key)).take (ks.length - (findN ks key)))).length) c28, .slice g30 (((((vs.drop 0).take ((findN ks key) - 0)) ++ ([val])) ++ ((vs.drop (findN ks key)).take (ks.length - (findN ks key)))).length) c30], .int .i64 0] ⟨⟨_, _, rfl, run_loadBlk (by kernel_rfl) (B33) (vs := [.bool lf, .slice g28 (((((ks.drop 0).take ((findN ks key) - 0)) ++ ([key])) ++ ((ks.drop (findN ks key)).take (ks.length - (findN ks key)))).length) c28, .slice g30 (((((vs.drop 0).take ((findN ks key) - 0)) ++ ([val])) ++ ((vs.drop (findN ks key)).take (ks.length - (findN ks key)))).length) c30]) rfl⟩, ⟨rfl, trivial⟩⟩ (v := .tuple #[.agg #[.bool lf, .slice g28 (((((ks.drop 0).take ((findN ks key) - 0)) ++ ([key])) ++ ((ks.drop (findN ks key)).take (ks.length - (findN ks key)))).length) c28, .slice g30 (((((vs.drop 0).take ((findN ks key) - 0)) ++ ([val])) ++ ((vs.drop (findN ks key)).take (ks.length - (findN ks key)))).length) c30], .int .i64 0]) rfl ?_
          have X := (((((((((((((((((((((((Ext.refl No w).trans x1).trans x2).trans x3).trans x5).trans x7).trans x8).trans x9).trans_new x10 (fun i hi => by subst hi; omega)).trans x11).transO x12 o12 (by omega)).trans_new x13 (fun i hi => by subst hi; omega)).trans x14).transO x15 o15 (by omega)).trans_new x16 (fun i hi => by subst hi; omega)).trans x25).trans x26).trans_new x27 (fun i hi => by subst hi; omega)).transO x28 o28 (by omega)).trans_new x29 (fun i hi => by subst hi; omega)).transO x30 o30 (by omega)).trans_new x31 (fun i hi => by subst hi; omega)).trans_new x33 (fun i hi => by subst hi; omega))
          have e : putN lf ks vs key val = (lf, ks.take (findN ks key) ++ key :: ks.drop (findN ks key), vs.take (findN ks key) ++ val :: vs.drop (findN ks key), 0) := by simp [putN, hok, hft, hat]; simp at h5; omega
          rw [e]
          have td1 := td ks (findN ks key) ks.length (by omega); have td2 := td vs (findN ks key) ks.length (by omega)
          exact ⟨_, rfl, ResN.cast (ks := (((ks.drop 0).take ((findN ks key) - 0)) ++ ([key])) ++ ((ks.drop (findN ks key)).take (ks.length - (findN ks key)))) (vs := (((vs.drop 0).take ((findN ks key) - 0)) ++ ([val])) ++ ((vs.drop (findN ks key)).take (ks.length - (findN ks key)))) (ResN.mk (((((O28.extb x29 (ne_grown y28 (ne_grown y12 (own_ne Oa8 (by omega)) (by omega)) (by omega))).extO x30 ((apart_grown y28 ((apart_grown y15 ((apart_grown y12 Ap8 (((Ob8.ext0 x9).extb x10 (own_ne Ob8 (by omega))).ext0 x11))).symm ((O12.extb x13 (ne_grown y12 (own_ne Oa8 (by omega)) (by omega))).ext0 x14))).symm ((((O15.extb x16 (ne_grown y15 (own_ne Ob8 (by omega)) (by omega))).ext0 x25).ext0 x26).extb x27 (own_ne O15 (by omega))))).symm).extb x31 (ne_grown y28 (ne_grown y12 (own_ne Oa8 (by omega)) (by omega)) (by omega))).extb x33 (ne_grown y28 (ne_grown y12 (own_ne Oa8 (by omega)) (by omega)) (by omega))).base (by omega)) (((O30.extb x31 (ne_grown y30 (ne_grown y15 (own_ne Ob8 (by omega)) (by omega)) (by omega))).extb x33 (ne_grown y30 (ne_grown y15 (own_ne Ob8 (by omega)) (by omega)) (by omega))).base (by omega)) ((apart_grown y30 ((apart_grown y28 ((apart_grown y15 ((apart_grown y12 Ap8 (((Ob8.ext0 x9).extb x10 (own_ne Ob8 (by omega))).ext0 x11))).symm ((O12.extb x13 (ne_grown y12 (own_ne Oa8 (by omega)) (by omega))).ext0 x14))).symm ((((O15.extb x16 (ne_grown y15 (own_ne Ob8 (by omega)) (by omega))).ext0 x25).ext0 x26).extb x27 (own_ne O15 (by omega))))).symm (O28.extb x29 (ne_grown y28 (ne_grown y12 (own_ne Oa8 (by omega)) (by omega)) (by omega))))).symm) (by simp [td1]) (by simp [td2]), X⟩

theorem lives_c (w : World) : Calls Try.prog 13 #[] w (Ret fun v w' => v = .bool true ∧ Ext No w w') := by
  refine enter Try.func13 rfl 34 Try.ntmps13 rfl ?_
  refine k_seq ?_
  refine s_region ?_
  refine s_do rfl rfl rfl (d_assign rfl rfl) ?_
  refine s_end ?_
  refine k_seq ?_
  refine s_region ?_
  refine s_do rfl rfl rfl (d_build rfl rfl (out := [.bool true, .slice none 0 0, .slice none 0 0]) (by kernel_rfl)) ?_
  have c1_1 := put_c true (.slice none 0 0) (.slice none 0 0) ([]) ([]) 5 9 w (RdI.nil0 _) (RdI.nil0 _)
  rw [put_one] at c1_1; dsimp only at c1_1
  refine s_call rfl rfl rfl rfl rfl (fun w => Try.call18 _ w) (c1_1) ?_
  rintro _ w1 ⟨_, rfl, ⟨ga1, ca1, gb1, cb1, rfl, Oa1, Ob1, Ap1⟩, x1⟩
  have m1 := x1.size
  clear c1_1
  refine s_do rfl rfl rfl (d_move rfl rfl) ?_
  refine s_do rfl rfl rfl (d_extract rfl rfl rfl) ?_
  refine s_do rfl rfl rfl (d_extract rfl rfl rfl) ?_
  refine s_go rfl rfl rfl (g_alloc (P := Try.prog) rfl (zs := [.bool false, .slice none 0 0, .slice none 0 0]) (by kernel_rfl)) ?_
  rintro _ w2 ⟨b2, rfl, s2, t2, B2, x2⟩
  refine s_put rfl rfl (p_store rfl rfl rfl (vs := [.bool true, .slice ga1 (([5]).length) ca1, .slice gb1 (([9]).length) cb1]) rfl (by simp [Value.oneCell']) (by kernel_rfl) (B2) (by simp) (out := [.bool true, .slice ga1 (([5]).length) ca1, .slice gb1 (([9]).length) cb1]) rfl) ?_
  rintro w3 ⟨B3, x3, t3⟩
  refine s_do rfl rfl rfl (d_assign rfl rfl) ?_
  refine s_end ?_
  refine k_seq ?_
  refine s_region ?_
  refine s_do rfl rfl rfl (d_loadAgg rfl rfl (vs := [.bool true, .slice ga1 (([5]).length) ca1, .slice gb1 (([9]).length) cb1]) (by kernel_rfl) (here (B3.part 0 3 _ rfl))) ?_
  refine s_call rfl rfl rfl rfl rfl (fun w => Try.call14 _ w) (find_c true _ _ ([5]) _ _ ((Oa1.ext0 x2).extb x3 (own_ne Oa1 (by omega))).rd) ?_
  rintro _ w4 ⟨rfl, x4⟩
  have m4 := x4.size
  refine s_do rfl rfl rfl (d_move rfl rfl) ?_
  refine s_do rfl rfl rfl (d_extract rfl rfl rfl) ?_
  refine s_do rfl rfl rfl (d_extract rfl rfl rfl) ?_
  refine s_do rfl rfl rfl (d_assign rfl rfl) ?_
  refine s_do rfl rfl rfl (d_assign rfl rfl) ?_
  refine s_end ?_
  refine k_seq ?_
  refine s_region ?_
  refine s_do rfl rfl rfl (d_move rfl rfl) ?_
  refine s_do rfl rfl rfl (d_eql rfl rfl rfl) ?_
  refine k_upd 16 (v := .bool true) rfl (congrArg Value.bool (by decide)) ?_
  refine s_do rfl rfl rfl (d_move rfl rfl) ?_
  refine s_do rfl rfl rfl (d_move rfl rfl) ?_
  refine s_do rfl rfl rfl (d_eql rfl rfl rfl) ?_
  refine s_do rfl rfl rfl (d_pick_t rfl rfl rfl) ?_
  refine s_do rfl rfl rfl (d_move rfl rfl) ?_
  refine s_part 21 rfl (fun h1 => ?_) (fun h1 => ?_)
  · -- yes: (findN ([5]) 5 : Int) = 0
    refine s_do rfl rfl rfl (d_move rfl rfl) ?_
    refine s_do rfl rfl rfl (d_pick_t rfl rfl rfl) ?_
    refine s_do rfl rfl rfl (d_move rfl rfl) ?_
    refine s_part 24 rfl (fun h2 => ?_) (fun h2 => ?_)
    · -- yes: ([5])[findN ([5]) 5]? = some 5
      refine s_do rfl rfl rfl (d_loadAgg rfl rfl (vs := [.bool true, .slice ga1 (([5]).length) ca1, .slice gb1 (([9]).length) cb1]) (by kernel_rfl) (here ((B3.ext0 x4).part 0 3 _ rfl))) ?_
      refine s_call rfl rfl rfl rfl rfl (fun w => Try.call12 _ w) (check_c true _ _ ([5]) ([9]) _ (((Oa1.ext0 x2).extb x3 (own_ne Oa1 (by omega))).ext0 x4).rd (((Ob1.ext0 x2).extb x3 (own_ne Ob1 (by omega))).ext0 x4).rd) ?_
      rintro _ w5 ⟨rfl, x5⟩
      have m5 := x5.size
      refine s_do rfl rfl rfl (d_eql rfl rfl rfl) ?_
      refine s_do rfl rfl rfl (d_pick_t rfl rfl rfl) ?_
      refine s_do rfl rfl rfl (d_move rfl rfl) ?_
      refine s_part 29 rfl (fun h3 => ?_) (fun h3 => ?_)
      · -- yes: (errN (okB true ([5]) ([9])) : Int) = 0
        refine s_do rfl rfl rfl (d_build rfl rfl (out := [.bool false, .slice none 0 0, .slice none 0 0]) (by kernel_rfl)) ?_
        refine s_call rfl rfl rfl rfl rfl (fun w => Try.call12 _ w) (check_c false _ _ ([]) ([]) _ (RdI.nil0 _) (RdI.nil0 _)) ?_
        rintro _ w6 ⟨rfl, x6⟩
        have m6 := x6.size
        refine s_do rfl rfl rfl (d_eql rfl rfl rfl) ?_
        refine s_do rfl rfl rfl (d_pick_t rfl rfl rfl) ?_
        refine s_do rfl rfl rfl (d_assign rfl rfl) ?_
        refine s_end ?_
        refine k_ret ?_
        refine doneL rfl [.bool (decide ((errN (okB false ([]) ([])) : Int) = 22))] ⟨rfl, trivial⟩ (v := .bool (decide ((errN (okB false ([]) ([])) : Int) = 22))) rfl ?_
        have X := (((((((Ext.refl No w).trans x1).trans x2).trans_new x3 (fun i hi => by subst hi; omega)).trans x4).trans x5).trans x6)
        exact ⟨by simp [errN, ok_none], X⟩
      · exfalso; exact h3 (by simp [errN, ok_one])
    · exfalso; exact h2 (by simp [findN, pre])
  · exfalso; exact h1 (by simp [findN, pre])
end Go.Proofs.Yteehoppklgcggaa
