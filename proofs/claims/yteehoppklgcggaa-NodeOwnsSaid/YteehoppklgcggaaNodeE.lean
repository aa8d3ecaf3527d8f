/-
  Walks of package node and of its reference: Drop, Same. No condition.
-/
import Derived.Test.YteehoppklgcggaaNodeC
set_option maxRecDepth 100000
namespace Go.Proofs.Yteehoppklgcggaa
open Go.RowKit
theorem drop_c (lf : Bool) (kv vv : Value) (ks vs : List Int) (p : Int) (w : World) (hk : RdI kv ks w) (hv : RdI vv vs w) :
    Calls Try.prog 21 #[.agg #[.bool lf, kv, vv], .int .i64 p] w (Ret fun v w' => ∃ u, v = .tuple #[u, .int .i64 (dropN lf ks vs p).2.2.2] ∧ ResN w.heap.size (dropN lf ks vs p).1 (dropN lf ks vs p).2.1 (dropN lf ks vs p).2.2.1 u w' ∧ Ext No w w') := by
  have hk0 := hk; have hv0 := hv
  obtain ⟨ka, kc, rfl, hkc, hkm, hc⟩ := hk0.opened
  obtain ⟨va, vc, rfl, hvc, hvm, hd⟩ := hv0.opened
  refine enter Try.func21 rfl 39 Try.ntmps21 rfl ?_
  refine k_seq ?_
  refine s_region ?_
  refine s_go rfl rfl rfl (g_box rfl rfl rfl) ?_
  rintro _ w1 ⟨b1, rfl, s1, t1, B1, x1⟩
  refine s_go rfl rfl rfl (g_alloc (P := Try.prog) rfl (zs := [.bool false, .slice none 0 0, .slice none 0 0]) (by kernel_rfl)) ?_
  rintro _ w2 ⟨b2, rfl, s2, t2, B2, x2⟩
  refine s_do rfl rfl rfl (d_assign rfl rfl) ?_
  refine s_end ?_
  refine k_seq ?_
  refine k_block ?_
  refine k_seq ?_
  refine s_region ?_
  refine s_do rfl rfl rfl (d_loadAgg rfl rfl (vs := [.bool lf, .slice ka ks.length kc, .slice va vs.length vc]) (by kernel_rfl) (here ((B1.ext0 x2).part 0 3 _ rfl))) ?_
  refine s_call rfl rfl rfl rfl rfl (fun w => Try.call12 _ w) (check_c lf _ _ ks vs _ ((hk.ext0 x1).ext0 x2) ((hv.ext0 x1).ext0 x2)) ?_
  rintro _ w3 ⟨rfl, x3⟩
  have m3 := x3.size
  refine s_do rfl rfl rfl (d_neq rfl rfl rfl) ?_
  refine s_do rfl rfl rfl (d_assign rfl rfl) ?_
  refine s_end ?_
  refine k_dec rfl (fun h1 => ?_) (fun h1 => ?_)
  · -- yes: (errN (okB lf ks vs) : Int) ≠ 0
    have hok := no_of h1
    refine k_seq ?_
    refine s_region ?_
    refine s_do rfl rfl rfl (d_build rfl rfl (out := [.bool false, .slice none 0 0, .slice none 0 0]) (by kernel_rfl)) ?_
    refine s_put rfl rfl (p_store rfl rfl rfl (vs := [.bool false, .slice none 0 0, .slice none 0 0]) rfl (by simp [Value.oneCell']) (by kernel_rfl) ((B2.ext0 x3)) (by simp) (out := [.bool false, .slice none 0 0, .slice none 0 0]) rfl) ?_
    rintro w4 ⟨B4, x4, t4⟩
    refine s_do rfl rfl rfl (d_assign rfl rfl) ?_
    refine s_end ?_
    refine k_ret ?_
    refine doneL rfl [.agg #[.bool false, .slice none 0 0, .slice none 0 0], .int .i64 22] ⟨⟨_, _, rfl, run_loadBlk (by kernel_rfl) (B4) (vs := [.bool false, .slice none 0 0, .slice none 0 0]) rfl⟩, ⟨rfl, trivial⟩⟩ (v := .tuple #[.agg #[.bool false, .slice none 0 0, .slice none 0 0], .int .i64 22]) rfl ?_
    have X := (((((Ext.refl No w).trans x1).trans x2).trans x3).trans_new x4 (fun i hi => by subst hi; omega))
    have e : dropN lf ks vs p = (false, [], [], 22) := by simp [dropN, hok]
    rw [e]
    exact ⟨_, rfl, ResN.cast (ks := []) (vs := []) (ResN.zero _ _) (by simp) (by simp), X⟩
  · -- no: (errN (okB lf ks vs) : Int) ≠ 0
    have hok := ok_of h1
    obtain ⟨p1, p2, p3, p4, p5⟩ := okB_ok hok
    refine k_seq ?_
    refine s_region ?_
    refine s_do rfl rfl rfl (d_move rfl rfl) ?_
    refine s_do rfl rfl rfl (d_lss rfl rfl rfl) ?_
    refine s_do rfl rfl rfl (d_move rfl rfl) ?_
    refine s_part 15 rfl (fun h2 => ?_) (fun h2 => ?_)
    · -- yes: (p : Int) < 0
      refine s_skip rfl rfl rfl ?_
      refine s_skip rfl rfl rfl ?_
      refine s_skip rfl rfl rfl ?_
      refine s_skip rfl rfl rfl ?_
      refine s_skip rfl rfl rfl ?_
      refine s_do rfl rfl rfl (d_pick_t rfl rfl rfl) ?_
      refine s_do rfl rfl rfl (d_assign rfl rfl) ?_
      refine s_end ?_
      refine k_true rfl ?_
      refine k_seq ?_
      refine s_region ?_
      refine s_do rfl rfl rfl (d_build rfl rfl (out := [.bool false, .slice none 0 0, .slice none 0 0]) (by kernel_rfl)) ?_
      refine s_put rfl rfl (p_store rfl rfl rfl (vs := [.bool false, .slice none 0 0, .slice none 0 0]) rfl (by simp [Value.oneCell']) (by kernel_rfl) ((B2.ext0 x3)) (by simp) (out := [.bool false, .slice none 0 0, .slice none 0 0]) rfl) ?_
      rintro w5 ⟨B5, x5, t5⟩
      refine s_do rfl rfl rfl (d_assign rfl rfl) ?_
      refine s_end ?_
      refine k_ret ?_
      refine doneL rfl [.agg #[.bool false, .slice none 0 0, .slice none 0 0], .int .i64 1] ⟨⟨_, _, rfl, run_loadBlk (by kernel_rfl) (B5) (vs := [.bool false, .slice none 0 0, .slice none 0 0]) rfl⟩, ⟨rfl, trivial⟩⟩ (v := .tuple #[.agg #[.bool false, .slice none 0 0, .slice none 0 0], .int .i64 1]) rfl ?_
      have X := (((((Ext.refl No w).trans x1).trans x2).trans x3).trans_new x5 (fun i hi => by subst hi; omega))
      have e : dropN lf ks vs p = (false, [], [], 1) := by rw [dropN, if_pos hok, if_neg (by omega)]
      rw [e]
      exact ⟨_, rfl, ResN.cast (ks := []) (vs := []) (ResN.zero _ _) (by simp) (by simp), X⟩
    · -- no: (p : Int) < 0
      refine s_do rfl rfl rfl (d_move rfl rfl) ?_
      refine s_do rfl rfl rfl (d_field rfl (k := 1) (r := 1) (by kernel_rfl) rfl rfl) ?_
      refine s_do rfl rfl rfl (d_load rfl rfl (by kernel_rfl) (here (((B1.ext0 x2).ext0 x3).cel 1 rfl))) ?_
      refine s_do rfl rfl rfl (d_len rfl (z := 1) (by kernel_rfl) rfl) ?_
      refine s_do rfl rfl rfl (d_geq rfl rfl rfl) ?_
      refine s_do rfl rfl rfl (d_pick_f rfl rfl rfl) ?_
      refine s_do rfl rfl rfl (d_assign rfl rfl) ?_
      refine s_end ?_
      refine k_dec rfl (fun h3 => ?_) (fun h3 => ?_)
      · -- yes: (ks.length : Int) ≤ p
        refine k_seq ?_
        refine s_region ?_
        refine s_do rfl rfl rfl (d_build rfl rfl (out := [.bool false, .slice none 0 0, .slice none 0 0]) (by kernel_rfl)) ?_
        refine s_put rfl rfl (p_store rfl rfl rfl (vs := [.bool false, .slice none 0 0, .slice none 0 0]) rfl (by simp [Value.oneCell']) (by kernel_rfl) ((B2.ext0 x3)) (by simp) (out := [.bool false, .slice none 0 0, .slice none 0 0]) rfl) ?_
        rintro w6 ⟨B6, x6, t6⟩
        refine s_do rfl rfl rfl (d_assign rfl rfl) ?_
        refine s_end ?_
        refine k_ret ?_
        refine doneL rfl [.agg #[.bool false, .slice none 0 0, .slice none 0 0], .int .i64 1] ⟨⟨_, _, rfl, run_loadBlk (by kernel_rfl) (B6) (vs := [.bool false, .slice none 0 0, .slice none 0 0]) rfl⟩, ⟨rfl, trivial⟩⟩ (v := .tuple #[.agg #[.bool false, .slice none 0 0, .slice none 0 0], .int .i64 1]) rfl ?_
        have X := (((((Ext.refl No w).trans x1).trans x2).trans x3).trans_new x6 (fun i hi => by subst hi; omega))
        have e : dropN lf ks vs p = (false, [], [], 1) := by rw [dropN, if_pos hok, if_neg (by omega)]
        rw [e]
        exact ⟨_, rfl, ResN.cast (ks := []) (vs := []) (ResN.zero _ _) (by simp) (by simp), X⟩
      · -- no: (ks.length : Int) ≤ p
        obtain ⟨n, rfl⟩ := Int.eq_ofNat_of_zero_le (show 0 ≤ p by omega)
        have hn : n < ks.length := by omega
        refine k_skip ?_
        refine k_seq ?_
        refine k_meet (fun a wr => ∃ (b7 : Nat) (ga7 : Option Addr) (ca7 : Nat) (gb7 : Option Addr) (cb7 : Nat), Fr 39 [] [(4, .pointer (some ⟨b2, 0, none⟩)), (5, .int .i64 0), (6, .pointer (some ⟨b7, 0, none⟩))] a ∧ Ext No w3 wr ∧ w3.heap.size ≤ b7 ∧ Blk b7 [.bool lf, .slice ga7 ((ks.eraseIdx n).length) ca7, .slice gb7 ((vs.eraseIdx n).length) cb7] 24 wr ∧ OwnI 3 w3.heap.size (.slice ga7 ((ks.eraseIdx n).length) ca7) (ks.eraseIdx n) wr ∧ OwnI 3 w3.heap.size (.slice gb7 ((vs.eraseIdx n).length) cb7) (vs.eraseIdx n) wr ∧ Apart (.slice ga7 ((ks.eraseIdx n).length) ca7) (.slice gb7 ((vs.eraseIdx n).length) cb7) ∧ Value.ownBlock (.slice ga7 ((ks.eraseIdx n).length) ca7) ≠ some b7 ∧ Value.ownBlock (.slice gb7 ((vs.eraseIdx n).length) cb7) ≠ some b7) ?_ ?_
        · -- the region
          refine a_region (Ext No w3) 13 rfl (by kernel_rfl) (fun w8 x8 z8 => ?_)
          refine a_do 0 rfl (by kernel_rfl) (by kernel_rfl) (by kernel_rfl) rfl rfl rfl (d_loadAgg rfl rfl (vs := [.bool lf, .slice ka ks.length kc, .slice va vs.length vc]) (by kernel_rfl) (fun _ hx => (((B1.ext0 x2).ext0 x3).ext0 hx).part 0 3 _ rfl)) ((Ext.refl No w3).trans x8) ?_
          refine a_do 1 rfl (by kernel_rfl) (by kernel_rfl) (by kernel_rfl) rfl rfl rfl (d_move rfl rfl) ((Ext.refl No w3).trans x8) ?_
          refine a_do 3 rfl (by kernel_rfl) (by kernel_rfl) (by kernel_rfl) rfl rfl rfl (d_loadAgg rfl rfl (vs := [.bool lf, .slice ka ks.length kc, .slice va vs.length vc]) (by kernel_rfl) (fun _ hx => (((B1.ext0 x2).ext0 x3).ext0 hx).part 0 3 _ rfl)) ((Ext.refl No w3).trans x8) ?_
          refine a_do 4 rfl (by kernel_rfl) (by kernel_rfl) (by kernel_rfl) rfl rfl rfl (d_move rfl rfl) ((Ext.refl No w3).trans x8) ?_
          refine a_do 5 rfl (by kernel_rfl) (by kernel_rfl) (by kernel_rfl) rfl rfl rfl (d_add64 rfl rfl rfl (r := (n : Int) + 1) (by omega) (by omega)) ((Ext.refl No w3).trans x8) ?_
          refine a_do 6 rfl (by kernel_rfl) (by kernel_rfl) (by kernel_rfl) rfl rfl rfl (d_field rfl (k := 1) (r := 1) (by kernel_rfl) rfl rfl) ((Ext.refl No w3).trans x8) ?_
          refine a_do 7 rfl (by kernel_rfl) (by kernel_rfl) (by kernel_rfl) rfl rfl rfl (d_load rfl rfl (by kernel_rfl) (fun _ hx => (((B1.ext0 x2).ext0 x3).ext0 hx).cel 1 rfl)) ((Ext.refl No w3).trans x8) ?_
          refine a_do 8 rfl (by kernel_rfl) (by kernel_rfl) (by kernel_rfl) rfl rfl rfl (d_len rfl (z := 1) (by kernel_rfl) rfl) ((Ext.refl No w3).trans x8) ?_
          refine a_all [2, 11] (by kernel_rfl) (by simp) ?_
          refine all2 ?_ ?_
          · -- number 2 comes next
            refine o_call rfl rfl rfl rfl rfl rfl (fun w => Try.call31 _ w) (part_c _ _ _ ks vs 0 n _ _ _ (by simp) (by simp) ((((hk.ext0 x1).ext0 x2).ext0 x3).ext0 x8) ((((hv.ext0 x1).ext0 x2).ext0 x3).ext0 x8) (by first | omega | (simp <;> omega)) (by first | omega | (simp <;> omega)) (by first | omega | (simp <;> omega)) (by first | omega | (simp <;> omega)) (by first | omega | (simp <;> omega))) ?_
            rintro _ w9 ⟨⟨ga9, ca9, gb9, cb9, rfl, Oa9, Ob9, Ap9⟩, x9⟩
            have m9 := x9.size
            refine a_and (((Ext.refl No w3).trans x8).trans x9) ?_
            refine a_all [9, 11] (by kernel_rfl) (by simp) ?_
            refine all2 ?_ ?_
            · -- number 9 comes next
              refine o_call rfl rfl rfl rfl rfl rfl (fun w => Try.call31 _ w) (part_c _ _ _ ks vs (n + 1) ks.length _ _ _ (by simp) (by simp) (((((hk.ext0 x1).ext0 x2).ext0 x3).ext0 x8).ext0 x9) (((((hv.ext0 x1).ext0 x2).ext0 x3).ext0 x8).ext0 x9) (by first | omega | (simp <;> omega)) (by first | omega | (simp <;> omega)) (by first | omega | (simp <;> omega)) (by first | omega | (simp <;> omega)) (by first | omega | (simp <;> omega))) ?_
              rintro _ w10 ⟨⟨ga10, ca10, gb10, cb10, rfl, Oa10, Ob10, Ap10⟩, x10⟩
              have m10 := x10.size
              refine a_and ((((Ext.refl No w3).trans x8).trans x9).trans x10) ?_
              refine a_all [10, 11] (by kernel_rfl) (by simp) ?_
              refine all2 ?_ ?_
              · -- number 10 comes next
                refine o_call rfl rfl rfl rfl rfl rfl (fun w => Try.call32 _ w) (castN (both_c _ _ _ _ _ _ ((ks.drop 0).take (n - 0)) ((vs.drop 0).take (n - 0)) ((ks.drop (n + 1)).take (ks.length - (n + 1))) ((vs.drop (n + 1)).take (ks.length - (n + 1))) _ (Oa9.ext0 x10).rd (Ob9.ext0 x10).rd Oa10.rd Ob10.rd (by first | omega | (simp <;> omega)) (by first | omega | (simp <;> omega)) (by first | omega | (simp <;> omega)) (by first | omega | (simp <;> omega))) (ks' := ks.eraseIdx n) (vs' := vs.eraseIdx n) (erase_cut ks n) (erase_cut2 vs n ks.length p1)) ?_
                rintro _ w11 ⟨⟨ga11, ca11, gb11, cb11, rfl, Oa11, Ob11, Ap11⟩, x11⟩
                have m11 := x11.size
                refine a_and (((((Ext.refl No w3).trans x8).trans x9).trans x10).trans x11) ?_
                refine a_all [11] (by kernel_rfl) (by simp) ?_
                refine all1 ?_
                refine o_go rfl rfl rfl rfl (g_alloc (P := Try.prog) rfl (zs := [.bool false, .slice none 0 0, .slice none 0 0]) (by kernel_rfl)) ?_
                rintro _ w12 ⟨b12, rfl, s12, t12, B12, x12⟩
                refine a_and ((((((Ext.refl No w3).trans x8).trans x9).trans x10).trans x11).trans x12) ?_
                refine a_all [12] (by kernel_rfl) (by simp) ?_
                refine all1 ?_
                refine o_put rfl rfl rfl (p_store rfl rfl rfl (vs := [.bool lf, .slice ga11 ((ks.eraseIdx n).length) ca11, .slice gb11 ((vs.eraseIdx n).length) cb11]) rfl (by simp [Value.oneCell']) (by kernel_rfl) (B12) (by simp) (out := [.bool lf, .slice ga11 ((ks.eraseIdx n).length) ca11, .slice gb11 ((vs.eraseIdx n).length) cb11]) rfl) ?_
                rintro w13 ⟨B13, x13, t13⟩
                refine a_and (((((((Ext.refl No w3).trans x8).trans x9).trans x10).trans x11).trans x12).trans_new x13 (fun i hi => by subst hi; omega)) ?_
                refine a_done (by kernel_rfl) ?_
                exact fun _ hF => ⟨b12, ga11, ca11, gb11, cb11, (hF.cons (hF.cons (hF.cons hF.nil 6 _ _ rfl rfl) 5 _ _ rfl rfl) 4 _ _ rfl rfl), (((((((Ext.refl No w3).trans x8).trans x9).trans x10).trans x11).trans x12).trans_new x13 (fun i hi => by subst hi; omega)), by omega, B13, (((Oa11.ext0 x12).extb x13 (own_ne Oa11 (by omega)))).base (by omega), (((Ob11.ext0 x12).extb x13 (own_ne Ob11 (by omega)))).base (by omega), Ap11, (own_ne Oa11 (by omega)), (own_ne Ob11 (by omega))⟩
              · -- number 11 comes next
                refine o_go rfl rfl rfl rfl (g_alloc (P := Try.prog) rfl (zs := [.bool false, .slice none 0 0, .slice none 0 0]) (by kernel_rfl)) ?_
                rintro _ w14 ⟨b14, rfl, s14, t14, B14, x14⟩
                refine a_and (((((Ext.refl No w3).trans x8).trans x9).trans x10).trans x14) ?_
                refine a_all [10] (by kernel_rfl) (by simp) ?_
                refine all1 ?_
                refine o_call rfl rfl rfl rfl rfl rfl (fun w => Try.call32 _ w) (castN (both_c _ _ _ _ _ _ ((ks.drop 0).take (n - 0)) ((vs.drop 0).take (n - 0)) ((ks.drop (n + 1)).take (ks.length - (n + 1))) ((vs.drop (n + 1)).take (ks.length - (n + 1))) _ ((Oa9.ext0 x10).ext0 x14).rd ((Ob9.ext0 x10).ext0 x14).rd (Oa10.ext0 x14).rd (Ob10.ext0 x14).rd (by first | omega | (simp <;> omega)) (by first | omega | (simp <;> omega)) (by first | omega | (simp <;> omega)) (by first | omega | (simp <;> omega))) (ks' := ks.eraseIdx n) (vs' := vs.eraseIdx n) (erase_cut ks n) (erase_cut2 vs n ks.length p1)) ?_
                rintro _ w15 ⟨⟨ga15, ca15, gb15, cb15, rfl, Oa15, Ob15, Ap15⟩, x15⟩
                have m15 := x15.size
                refine a_and ((((((Ext.refl No w3).trans x8).trans x9).trans x10).trans x14).trans x15) ?_
                refine a_all [12] (by kernel_rfl) (by simp) ?_
                refine all1 ?_
                refine o_put rfl rfl rfl (p_store rfl rfl rfl (vs := [.bool lf, .slice ga15 ((ks.eraseIdx n).length) ca15, .slice gb15 ((vs.eraseIdx n).length) cb15]) rfl (by simp [Value.oneCell']) (by kernel_rfl) ((B14.ext0 x15)) (by simp) (out := [.bool lf, .slice ga15 ((ks.eraseIdx n).length) ca15, .slice gb15 ((vs.eraseIdx n).length) cb15]) rfl) ?_
                rintro w16 ⟨B16, x16, t16⟩
                refine a_and (((((((Ext.refl No w3).trans x8).trans x9).trans x10).trans x14).trans x15).trans_new x16 (fun i hi => by subst hi; omega)) ?_
                refine a_done (by kernel_rfl) ?_
                exact fun _ hF => ⟨b14, ga15, ca15, gb15, cb15, (hF.cons (hF.cons (hF.cons hF.nil 6 _ _ rfl rfl) 5 _ _ rfl rfl) 4 _ _ rfl rfl), (((((((Ext.refl No w3).trans x8).trans x9).trans x10).trans x14).trans x15).trans_new x16 (fun i hi => by subst hi; omega)), by omega, B16, ((Oa15.extb x16 (own_ne Oa15 (by omega)))).base (by omega), ((Ob15.extb x16 (own_ne Ob15 (by omega)))).base (by omega), Ap15, (own_ne Oa15 (by omega)), (own_ne Ob15 (by omega))⟩
            · -- number 11 comes next
              refine o_go rfl rfl rfl rfl (g_alloc (P := Try.prog) rfl (zs := [.bool false, .slice none 0 0, .slice none 0 0]) (by kernel_rfl)) ?_
              rintro _ w17 ⟨b17, rfl, s17, t17, B17, x17⟩
              refine a_and ((((Ext.refl No w3).trans x8).trans x9).trans x17) ?_
              refine a_all [9] (by kernel_rfl) (by simp) ?_
              refine all1 ?_
              refine o_call rfl rfl rfl rfl rfl rfl (fun w => Try.call31 _ w) (part_c _ _ _ ks vs (n + 1) ks.length _ _ _ (by simp) (by simp) ((((((hk.ext0 x1).ext0 x2).ext0 x3).ext0 x8).ext0 x9).ext0 x17) ((((((hv.ext0 x1).ext0 x2).ext0 x3).ext0 x8).ext0 x9).ext0 x17) (by first | omega | (simp <;> omega)) (by first | omega | (simp <;> omega)) (by first | omega | (simp <;> omega)) (by first | omega | (simp <;> omega)) (by first | omega | (simp <;> omega))) ?_
              rintro _ w18 ⟨⟨ga18, ca18, gb18, cb18, rfl, Oa18, Ob18, Ap18⟩, x18⟩
              have m18 := x18.size
              refine a_and (((((Ext.refl No w3).trans x8).trans x9).trans x17).trans x18) ?_
              refine a_all [10] (by kernel_rfl) (by simp) ?_
              refine all1 ?_
              refine o_call rfl rfl rfl rfl rfl rfl (fun w => Try.call32 _ w) (castN (both_c _ _ _ _ _ _ ((ks.drop 0).take (n - 0)) ((vs.drop 0).take (n - 0)) ((ks.drop (n + 1)).take (ks.length - (n + 1))) ((vs.drop (n + 1)).take (ks.length - (n + 1))) _ ((Oa9.ext0 x17).ext0 x18).rd ((Ob9.ext0 x17).ext0 x18).rd Oa18.rd Ob18.rd (by first | omega | (simp <;> omega)) (by first | omega | (simp <;> omega)) (by first | omega | (simp <;> omega)) (by first | omega | (simp <;> omega))) (ks' := ks.eraseIdx n) (vs' := vs.eraseIdx n) (erase_cut ks n) (erase_cut2 vs n ks.length p1)) ?_
              rintro _ w19 ⟨⟨ga19, ca19, gb19, cb19, rfl, Oa19, Ob19, Ap19⟩, x19⟩
              have m19 := x19.size
              refine a_and ((((((Ext.refl No w3).trans x8).trans x9).trans x17).trans x18).trans x19) ?_
              refine a_all [12] (by kernel_rfl) (by simp) ?_
              refine all1 ?_
              refine o_put rfl rfl rfl (p_store rfl rfl rfl (vs := [.bool lf, .slice ga19 ((ks.eraseIdx n).length) ca19, .slice gb19 ((vs.eraseIdx n).length) cb19]) rfl (by simp [Value.oneCell']) (by kernel_rfl) (((B17.ext0 x18).ext0 x19)) (by simp) (out := [.bool lf, .slice ga19 ((ks.eraseIdx n).length) ca19, .slice gb19 ((vs.eraseIdx n).length) cb19]) rfl) ?_
              rintro w20 ⟨B20, x20, t20⟩
              refine a_and (((((((Ext.refl No w3).trans x8).trans x9).trans x17).trans x18).trans x19).trans_new x20 (fun i hi => by subst hi; omega)) ?_
              refine a_done (by kernel_rfl) ?_
              exact fun _ hF => ⟨b17, ga19, ca19, gb19, cb19, (hF.cons (hF.cons (hF.cons hF.nil 6 _ _ rfl rfl) 5 _ _ rfl rfl) 4 _ _ rfl rfl), (((((((Ext.refl No w3).trans x8).trans x9).trans x17).trans x18).trans x19).trans_new x20 (fun i hi => by subst hi; omega)), by omega, B20, ((Oa19.extb x20 (own_ne Oa19 (by omega)))).base (by omega), ((Ob19.extb x20 (own_ne Ob19 (by omega)))).base (by omega), Ap19, (own_ne Oa19 (by omega)), (own_ne Ob19 (by omega))⟩
          · -- number 11 comes next
            refine o_go rfl rfl rfl rfl (g_alloc (P := Try.prog) rfl (zs := [.bool false, .slice none 0 0, .slice none 0 0]) (by kernel_rfl)) ?_
            rintro _ w21 ⟨b21, rfl, s21, t21, B21, x21⟩
            refine a_and (((Ext.refl No w3).trans x8).trans x21) ?_
            refine a_all [2] (by kernel_rfl) (by simp) ?_
            refine all1 ?_
            refine o_call rfl rfl rfl rfl rfl rfl (fun w => Try.call31 _ w) (part_c _ _ _ ks vs 0 n _ _ _ (by simp) (by simp) (((((hk.ext0 x1).ext0 x2).ext0 x3).ext0 x8).ext0 x21) (((((hv.ext0 x1).ext0 x2).ext0 x3).ext0 x8).ext0 x21) (by first | omega | (simp <;> omega)) (by first | omega | (simp <;> omega)) (by first | omega | (simp <;> omega)) (by first | omega | (simp <;> omega)) (by first | omega | (simp <;> omega))) ?_
            rintro _ w22 ⟨⟨ga22, ca22, gb22, cb22, rfl, Oa22, Ob22, Ap22⟩, x22⟩
            have m22 := x22.size
            refine a_and ((((Ext.refl No w3).trans x8).trans x21).trans x22) ?_
            refine a_all [9] (by kernel_rfl) (by simp) ?_
            refine all1 ?_
            refine o_call rfl rfl rfl rfl rfl rfl (fun w => Try.call31 _ w) (part_c _ _ _ ks vs (n + 1) ks.length _ _ _ (by simp) (by simp) ((((((hk.ext0 x1).ext0 x2).ext0 x3).ext0 x8).ext0 x21).ext0 x22) ((((((hv.ext0 x1).ext0 x2).ext0 x3).ext0 x8).ext0 x21).ext0 x22) (by first | omega | (simp <;> omega)) (by first | omega | (simp <;> omega)) (by first | omega | (simp <;> omega)) (by first | omega | (simp <;> omega)) (by first | omega | (simp <;> omega))) ?_
            rintro _ w23 ⟨⟨ga23, ca23, gb23, cb23, rfl, Oa23, Ob23, Ap23⟩, x23⟩
            have m23 := x23.size
            refine a_and (((((Ext.refl No w3).trans x8).trans x21).trans x22).trans x23) ?_
            refine a_all [10] (by kernel_rfl) (by simp) ?_
            refine all1 ?_
            refine o_call rfl rfl rfl rfl rfl rfl (fun w => Try.call32 _ w) (castN (both_c _ _ _ _ _ _ ((ks.drop 0).take (n - 0)) ((vs.drop 0).take (n - 0)) ((ks.drop (n + 1)).take (ks.length - (n + 1))) ((vs.drop (n + 1)).take (ks.length - (n + 1))) _ (Oa22.ext0 x23).rd (Ob22.ext0 x23).rd Oa23.rd Ob23.rd (by first | omega | (simp <;> omega)) (by first | omega | (simp <;> omega)) (by first | omega | (simp <;> omega)) (by first | omega | (simp <;> omega))) (ks' := ks.eraseIdx n) (vs' := vs.eraseIdx n) (erase_cut ks n) (erase_cut2 vs n ks.length p1)) ?_
            rintro _ w24 ⟨⟨ga24, ca24, gb24, cb24, rfl, Oa24, Ob24, Ap24⟩, x24⟩
            have m24 := x24.size
            refine a_and ((((((Ext.refl No w3).trans x8).trans x21).trans x22).trans x23).trans x24) ?_
            refine a_all [12] (by kernel_rfl) (by simp) ?_
            refine all1 ?_
            refine o_put rfl rfl rfl (p_store rfl rfl rfl (vs := [.bool lf, .slice ga24 ((ks.eraseIdx n).length) ca24, .slice gb24 ((vs.eraseIdx n).length) cb24]) rfl (by simp [Value.oneCell']) (by kernel_rfl) ((((B21.ext0 x22).ext0 x23).ext0 x24)) (by simp) (out := [.bool lf, .slice ga24 ((ks.eraseIdx n).length) ca24, .slice gb24 ((vs.eraseIdx n).length) cb24]) rfl) ?_
            rintro w25 ⟨B25, x25, t25⟩
            refine a_and (((((((Ext.refl No w3).trans x8).trans x21).trans x22).trans x23).trans x24).trans_new x25 (fun i hi => by subst hi; omega)) ?_
            refine a_done (by kernel_rfl) ?_
            exact fun _ hF => ⟨b21, ga24, ca24, gb24, cb24, (hF.cons (hF.cons (hF.cons hF.nil 6 _ _ rfl rfl) 5 _ _ rfl rfl) 4 _ _ rfl rfl), (((((((Ext.refl No w3).trans x8).trans x21).trans x22).trans x23).trans x24).trans_new x25 (fun i hi => by subst hi; omega)), by omega, B25, ((Oa24.extb x25 (own_ne Oa24 (by omega)))).base (by omega), ((Ob24.extb x25 (own_ne Ob24 (by omega)))).base (by omega), Ap24, (own_ne Oa24 (by omega)), (own_ne Ob24 (by omega))⟩
        rintro a w7 ⟨b7, ga7, ca7, gb7, cb7, hF, x7, zb7, B7, O7', O7'', A7, N7, N7'⟩
        have m7 := x7.size
        have lB7 := B7.lt
        revert a
        refine k_seq ?_
        refine k_seq ?_
        refine s_region ?_
        refine s_do rfl rfl rfl (d_loadAgg rfl rfl (vs := [.bool lf, .slice ga7 ((ks.eraseIdx n).length) ca7, .slice gb7 ((vs.eraseIdx n).length) cb7]) (by kernel_rfl) (here (B7.part 0 3 _ rfl))) ?_
        refine s_call rfl rfl rfl rfl rfl (fun w => Try.call12 _ w) (check_c lf _ _ (ks.eraseIdx n) (vs.eraseIdx n) _ O7'.rd O7''.rd) ?_
        rintro _ w26 ⟨rfl, x26⟩
        have m26 := x26.size
        refine s_do rfl rfl rfl (d_neq rfl rfl rfl) ?_
        refine s_end ?_
        refine k_dec rfl (fun h4 => ?_) (fun h4 => ?_)
        · -- yes: (errN (okB lf (ks.eraseIdx n) (vs.eraseIdx n)) : Int) ≠ 0
          have hok2 := no_of h4
          refine k_seq ?_
          refine s_region ?_
          refine s_do rfl rfl rfl (d_build rfl rfl (out := [.bool false, .slice none 0 0, .slice none 0 0]) (by kernel_rfl)) ?_
          refine s_put rfl rfl (p_store rfl rfl rfl (vs := [.bool false, .slice none 0 0, .slice none 0 0]) rfl (by simp [Value.oneCell']) (by kernel_rfl) ((((B2.ext0 x3).ext0 x7).ext0 x26)) (by simp) (out := [.bool false, .slice none 0 0, .slice none 0 0]) rfl) ?_
          rintro w27 ⟨B27, x27, t27⟩
          refine s_do rfl rfl rfl (d_assign rfl rfl) ?_
          refine s_end ?_
          refine k_ret ?_
          refine doneL rfl [.agg #[.bool false, .slice none 0 0, .slice none 0 0], .int .i64 22] ⟨⟨_, _, rfl, run_loadBlk (by kernel_rfl) (B27) (vs := [.bool false, .slice none 0 0, .slice none 0 0]) rfl⟩, ⟨rfl, trivial⟩⟩ (v := .tuple #[.agg #[.bool false, .slice none 0 0, .slice none 0 0], .int .i64 22]) rfl ?_
          have X := (((((((Ext.refl No w).trans x1).trans x2).trans x3).trans x7).trans x26).trans_new x27 (fun i hi => by subst hi; omega))
          have e : dropN lf ks vs (n : Int) = (false, [], [], 22) := by simp [dropN, hok, hn, hok2]
          rw [e]
          exact ⟨_, rfl, ResN.cast (ks := []) (vs := []) (ResN.zero _ _) (by simp) (by simp), X⟩
        · -- no: (errN (okB lf (ks.eraseIdx n) (vs.eraseIdx n)) : Int) ≠ 0
          have hok2 := ok_of h4
          refine k_skip ?_
          refine k_seq ?_
          refine s_region ?_
          refine s_do rfl rfl rfl (d_loadAgg rfl rfl (vs := [.bool lf, .slice ga7 ((ks.eraseIdx n).length) ca7, .slice gb7 ((vs.eraseIdx n).length) cb7]) (by kernel_rfl) (here ((B7.ext0 x26).part 0 3 _ rfl))) ?_
          refine s_put rfl rfl (p_store rfl rfl rfl (vs := [.bool lf, .slice ga7 ((ks.eraseIdx n).length) ca7, .slice gb7 ((vs.eraseIdx n).length) cb7]) rfl (by simp [Value.oneCell']) (by kernel_rfl) ((((B2.ext0 x3).ext0 x7).ext0 x26)) (by simp) (out := [.bool lf, .slice ga7 ((ks.eraseIdx n).length) ca7, .slice gb7 ((vs.eraseIdx n).length) cb7]) rfl) ?_
          rintro w28 ⟨B28, x28, t28⟩
          refine s_do rfl rfl rfl (d_assign rfl rfl) ?_
          refine s_end ?_
          refine k_ret ?_
          refine doneL rfl [.agg #[.bool lf, .slice ga7 ((ks.eraseIdx n).length) ca7, .slice gb7 ((vs.eraseIdx n).length) cb7], .int .i64 0] ⟨⟨_, _, rfl, run_loadBlk (by kernel_rfl) (B28) (vs := [.bool lf, .slice ga7 ((ks.eraseIdx n).length) ca7, .slice gb7 ((vs.eraseIdx n).length) cb7]) rfl⟩, ⟨rfl, trivial⟩⟩ (v := .tuple #[.agg #[.bool lf, .slice ga7 ((ks.eraseIdx n).length) ca7, .slice gb7 ((vs.eraseIdx n).length) cb7], .int .i64 0]) rfl ?_
          have X := (((((((Ext.refl No w).trans x1).trans x2).trans x3).trans x7).trans x26).trans_new x28 (fun i hi => by subst hi; omega))
          have e : dropN lf ks vs (n : Int) = (lf, ks.eraseIdx n, vs.eraseIdx n, 0) := by simp [dropN, hok, hn, hok2]
          rw [e]
          exact ⟨_, rfl, ResN.cast (ks := ks.eraseIdx n) (vs := vs.eraseIdx n) (ResN.mk (((O7'.ext0 x26).extb x28 (own_ne O7' (by omega))).base (by omega)) (((O7''.ext0 x26).extb x28 (own_ne O7'' (by omega))).base (by omega)) A7) (by simp) (by simp), X⟩

theorem rdrop_c (lf : Bool) (kv vv : Value) (ks vs : List Int) (p : Int) (w : World) (hk : RdI kv ks w) (hv : RdI vv vs w) :
    Calls Try.prog 22 #[.agg #[.bool lf, kv, vv], .int .i64 p] w (Ret fun v w' => ∃ u, v = .tuple #[u, .int .i64 (dropN lf ks vs p).2.2.2] ∧ ResN w.heap.size (dropN lf ks vs p).1 (dropN lf ks vs p).2.1 (dropN lf ks vs p).2.2.1 u w' ∧ Ext No w w') := by
  have hk0 := hk; have hv0 := hv
  obtain ⟨ka, kc, rfl, hkc, hkm, hc⟩ := hk0.opened
  obtain ⟨va, vc, rfl, hvc, hvm, hd⟩ := hv0.opened
  refine enter Try.func22 rfl 63 Try.ntmps22 rfl ?_
  refine k_seq ?_
  refine s_region ?_
  refine s_go rfl rfl rfl (g_box rfl rfl rfl) ?_
  rintro _ w1 ⟨b1, rfl, s1, t1, B1, x1⟩
  refine s_go rfl rfl rfl (g_alloc (P := Try.prog) rfl (zs := [.bool false, .slice none 0 0, .slice none 0 0]) (by kernel_rfl)) ?_
  rintro _ w2 ⟨b2, rfl, s2, t2, B2, x2⟩
  refine s_do rfl rfl rfl (d_assign rfl rfl) ?_
  refine s_end ?_
  refine k_seq ?_
  refine s_region ?_
  refine s_do rfl rfl rfl (d_loadAgg rfl rfl (vs := [.bool lf, .slice ka ks.length kc, .slice va vs.length vc]) (by kernel_rfl) (here ((B1.ext0 x2).part 0 3 _ rfl))) ?_
  refine s_call rfl rfl rfl rfl rfl (fun w => Try.call11 _ w) (may_c lf _ _ ks vs _ ((hk.ext0 x1).ext0 x2) ((hv.ext0 x1).ext0 x2)) ?_
  rintro _ w3 ⟨rfl, x3⟩
  have m3 := x3.size
  refine s_do rfl rfl rfl (d_assign rfl rfl) ?_
  refine s_end ?_
  refine k_seq ?_
  refine k_seq ?_
  refine s_region ?_
  refine s_do rfl rfl rfl (d_move rfl rfl) ?_
  refine s_do rfl rfl rfl (d_not rfl rfl) ?_
  refine s_end ?_
  refine k_cond rfl (fun h1 => ?_) (fun h1 => ?_)
  · -- yes: (!okB lf ks vs)
    have hok : okB lf ks vs = false := by simpa using h1
    refine k_seq ?_
    refine s_region ?_
    refine s_do rfl rfl rfl (d_build rfl rfl (out := [.bool false, .slice none 0 0, .slice none 0 0]) (by kernel_rfl)) ?_
    refine s_put rfl rfl (p_store rfl rfl rfl (vs := [.bool false, .slice none 0 0, .slice none 0 0]) rfl (by simp [Value.oneCell']) (by kernel_rfl) ((B2.ext0 x3)) (by simp) (out := [.bool false, .slice none 0 0, .slice none 0 0]) rfl) ?_
    rintro w4 ⟨B4, x4, t4⟩
    refine s_do rfl rfl rfl (d_assign rfl rfl) ?_
    refine s_end ?_
    refine k_ret ?_
    refine doneL rfl [.agg #[.bool false, .slice none 0 0, .slice none 0 0], .int .i64 22] ⟨⟨_, _, rfl, run_loadBlk (by kernel_rfl) (B4) (vs := [.bool false, .slice none 0 0, .slice none 0 0]) rfl⟩, ⟨rfl, trivial⟩⟩ (v := .tuple #[.agg #[.bool false, .slice none 0 0, .slice none 0 0], .int .i64 22]) rfl ?_
    have X := (((((Ext.refl No w).trans x1).trans x2).trans x3).trans_new x4 (fun i hi => by subst hi; omega))
    have e : dropN lf ks vs p = (false, [], [], 22) := by simp [dropN, hok]
    rw [e]
    exact ⟨_, rfl, ResN.cast (ks := []) (vs := []) (ResN.zero _ _) (by simp) (by simp), X⟩
  · -- no: (!okB lf ks vs)
    have hok : okB lf ks vs = true := by simpa using h1
    obtain ⟨p1, p2, p3, p4, p5⟩ := okB_ok hok
    refine k_skip ?_
    refine k_seq ?_
    refine k_seq ?_
    refine s_region ?_
    refine s_do rfl rfl rfl (d_move rfl rfl) ?_
    refine s_do rfl rfl rfl (d_lss rfl rfl rfl) ?_
    refine s_do rfl rfl rfl (d_move rfl rfl) ?_
    refine s_part 16 rfl (fun h2 => ?_) (fun h2 => ?_)
    · -- yes: (p : Int) < 0
      refine s_skip rfl rfl rfl ?_
      refine s_skip rfl rfl rfl ?_
      refine s_skip rfl rfl rfl ?_
      refine s_skip rfl rfl rfl ?_
      refine s_skip rfl rfl rfl ?_
      refine s_do rfl rfl rfl (d_pick_t rfl rfl rfl) ?_
      refine s_end ?_
      refine k_true rfl ?_
      refine k_seq ?_
      refine s_region ?_
      refine s_do rfl rfl rfl (d_build rfl rfl (out := [.bool false, .slice none 0 0, .slice none 0 0]) (by kernel_rfl)) ?_
      refine s_put rfl rfl (p_store rfl rfl rfl (vs := [.bool false, .slice none 0 0, .slice none 0 0]) rfl (by simp [Value.oneCell']) (by kernel_rfl) ((B2.ext0 x3)) (by simp) (out := [.bool false, .slice none 0 0, .slice none 0 0]) rfl) ?_
      rintro w5 ⟨B5, x5, t5⟩
      refine s_do rfl rfl rfl (d_assign rfl rfl) ?_
      refine s_end ?_
      refine k_ret ?_
      refine doneL rfl [.agg #[.bool false, .slice none 0 0, .slice none 0 0], .int .i64 1] ⟨⟨_, _, rfl, run_loadBlk (by kernel_rfl) (B5) (vs := [.bool false, .slice none 0 0, .slice none 0 0]) rfl⟩, ⟨rfl, trivial⟩⟩ (v := .tuple #[.agg #[.bool false, .slice none 0 0, .slice none 0 0], .int .i64 1]) rfl ?_
      have X := (((((Ext.refl No w).trans x1).trans x2).trans x3).trans_new x5 (fun i hi => by subst hi; omega))
      have e : dropN lf ks vs p = (false, [], [], 1) := by rw [dropN, if_pos hok, if_neg (by omega)]
      rw [e]
      exact ⟨_, rfl, ResN.cast (ks := []) (vs := []) (ResN.zero _ _) (by simp) (by simp), X⟩
    · -- no: (p : Int) < 0
      refine s_do rfl rfl rfl (d_move rfl rfl) ?_
      refine s_do rfl rfl rfl (d_field rfl (k := 1) (r := 1) (by kernel_rfl) rfl rfl) ?_
      refine s_do rfl rfl rfl (d_load rfl rfl (by kernel_rfl) (here (((B1.ext0 x2).ext0 x3).cel 1 rfl))) ?_
      refine s_do rfl rfl rfl (d_len rfl (z := 1) (by kernel_rfl) rfl) ?_
      refine s_do rfl rfl rfl (d_geq rfl rfl rfl) ?_
      refine s_do rfl rfl rfl (d_pick_f rfl rfl rfl) ?_
      refine s_end ?_
      refine k_dec rfl (fun h3 => ?_) (fun h3 => ?_)
      · -- yes: (ks.length : Int) ≤ p
        refine k_seq ?_
        refine s_region ?_
        refine s_do rfl rfl rfl (d_build rfl rfl (out := [.bool false, .slice none 0 0, .slice none 0 0]) (by kernel_rfl)) ?_
        refine s_put rfl rfl (p_store rfl rfl rfl (vs := [.bool false, .slice none 0 0, .slice none 0 0]) rfl (by simp [Value.oneCell']) (by kernel_rfl) ((B2.ext0 x3)) (by simp) (out := [.bool false, .slice none 0 0, .slice none 0 0]) rfl) ?_
        rintro w6 ⟨B6, x6, t6⟩
        refine s_do rfl rfl rfl (d_assign rfl rfl) ?_
        refine s_end ?_
        refine k_ret ?_
        refine doneL rfl [.agg #[.bool false, .slice none 0 0, .slice none 0 0], .int .i64 1] ⟨⟨_, _, rfl, run_loadBlk (by kernel_rfl) (B6) (vs := [.bool false, .slice none 0 0, .slice none 0 0]) rfl⟩, ⟨rfl, trivial⟩⟩ (v := .tuple #[.agg #[.bool false, .slice none 0 0, .slice none 0 0], .int .i64 1]) rfl ?_
        have X := (((((Ext.refl No w).trans x1).trans x2).trans x3).trans_new x6 (fun i hi => by subst hi; omega))
        have e : dropN lf ks vs p = (false, [], [], 1) := by rw [dropN, if_pos hok, if_neg (by omega)]
        rw [e]
        exact ⟨_, rfl, ResN.cast (ks := []) (vs := []) (ResN.zero _ _) (by simp) (by simp), X⟩
      · -- no: (ks.length : Int) ≤ p
        obtain ⟨n, rfl⟩ := Int.eq_ofNat_of_zero_le (show 0 ≤ p by omega)
        have hn : n < ks.length := by omega
        refine k_skip ?_
        refine k_seq ?_
        refine s_region ?_
        refine s_do rfl rfl rfl (d_field rfl (k := 0) (r := 0) (by kernel_rfl) rfl rfl) ?_
        refine s_do rfl rfl rfl (d_load rfl rfl (by kernel_rfl) (here (((B1.ext0 x2).ext0 x3).cel 0 rfl))) ?_
        refine s_do rfl rfl rfl (d_build rfl rfl (out := [.bool lf, .slice none 0 0, .slice none 0 0]) (by kernel_rfl)) ?_
        refine s_go rfl rfl rfl (g_alloc (P := Try.prog) rfl (zs := [.bool false, .slice none 0 0, .slice none 0 0]) (by kernel_rfl)) ?_
        rintro _ w7 ⟨b7, rfl, s7, t7, B7, x7⟩
        refine s_put rfl rfl (p_store rfl rfl rfl (vs := [.bool lf, .slice none 0 0, .slice none 0 0]) rfl (by simp [Value.oneCell']) (by kernel_rfl) (B7) (by simp) (out := [.bool lf, .slice none 0 0, .slice none 0 0]) rfl) ?_
        rintro w8 ⟨B8, x8, t8⟩
        refine s_end ?_
        refine k_seq ?_
        refine k_seq ?_
        refine s_region ?_
        refine s_do rfl rfl rfl (d_assign rfl rfl) ?_
        refine s_end ?_
        refine k_block ?_
        refine c_loop (σ := Nat) (fun k => [(8, .int .i64 (k : Int)), (1, .int .i64 (n : Int)), (2, .pointer (some ⟨b1, 0, none⟩)), (4, .pointer (some ⟨b2, 0, none⟩)), (5, .int .i64 0), (6, .bool (okB lf ks vs)), (7, .pointer (some ⟨b7, 0, none⟩))])
          (fun k wr => Ext No w3 wr ∧ Blk b1 [.bool lf, .slice ka ks.length kc, .slice va vs.length vc] 24 wr ∧ Blk b2 [.bool false, .slice none 0 0, .slice none 0 0] 24 wr ∧ (k ≤ ks.length ∧ ∃ g c g2 c2, Blk b7 [.bool lf, .slice g ((ks.take k).eraseIdx n).length c, .slice g2 ((vs.take k).eraseIdx n).length c2] 24 wr ∧ OwnI 3 w7.heap.size (.slice g ((ks.take k).eraseIdx n).length c) ((ks.take k).eraseIdx n) wr ∧ OwnI 3 w7.heap.size (.slice g2 ((vs.take k).eraseIdx n).length c2) ((vs.take k).eraseIdx n) wr ∧ Apart (.slice g ((ks.take k).eraseIdx n).length c) (.slice g2 ((vs.take k).eraseIdx n).length c2))) (fun k => ks.length - k) 0
          (fun _ hF => (hF.cons (hF.cons (hF.cons (hF.cons (hF.cons (hF.cons (hF.cons hF.nil 7 _ _ rfl rfl) 6 _ _ rfl rfl) 5 _ _ rfl rfl) 4 _ _ rfl rfl) 2 _ _ rfl rfl) 1 _ _ rfl rfl) 8 _ _ rfl (by go_num))) ⟨(((Ext.refl No w3).trans x7).trans_new x8 (fun i hi => by subst hi; omega)), ((((B1.ext0 x2).ext0 x3).ext0 x7).ext x8 (show ¬ (b1 = b7) by omega)), (((B2.ext0 x3).ext0 x7).ext x8 (show ¬ (b2 = b7) by omega)), by omega, none, 0, none, 0, by simpa using B8, by simpa using OwnI.nil _ _ _, by simpa using OwnI.nil _ _ _, by simpa using Apart.nil _⟩ ?_
        rintro k wr9 ⟨x9, B1r9, B2r9, hI⟩
        have m9 := x9.size
        have lB1r9 := B1r9.lt
        have lB2r9 := B2r9.lt
        obtain ⟨hkq, g, c, g2, c2, Bb, Oa, Ob, Ap⟩ := hI
        have le1 := erase_len ks k n
        have le2 := erase_len vs k n
        have lBb := Bb.lt
        refine k_seq ?_
        refine k_seq ?_
        refine s_region ?_
        refine s_do rfl rfl rfl (d_move rfl rfl) ?_
        refine s_do rfl rfl rfl (d_field rfl (k := 1) (r := 1) (by kernel_rfl) rfl rfl) ?_
        refine s_do rfl rfl rfl (d_load rfl rfl (by kernel_rfl) (here (B1r9.cel 1 rfl))) ?_
        refine s_do rfl rfl rfl (d_len rfl (z := 1) (by kernel_rfl) rfl) ?_
        refine s_do rfl rfl rfl (d_lss rfl rfl rfl) ?_
        refine s_end ?_
        refine k_dec rfl (fun h4 => ?_) (fun h4 => ?_)
        · -- yes: (k : Int) < (ks.length : Int)
          refine k_skip ?_
          refine k_seq ?_
          refine k_block ?_
          refine k_seq ?_
          refine s_region ?_
          refine s_do rfl rfl rfl (d_move rfl rfl) ?_
          refine s_do rfl rfl rfl (d_move rfl rfl) ?_
          refine s_do rfl rfl rfl (d_neq rfl rfl rfl) ?_
          refine s_end ?_
          refine k_dec rfl (fun h5 => ?_) (fun h5 => ?_)
          · -- yes: (k : Int) ≠ (n : Int)
            refine k_seq ?_
            have f10 := Oa
            refine l_region (Ext (fun i => (Value.slice g (((ks.take k).eraseIdx n).length) c).ownBlock = some i) wr9) 11 rfl (by kernel_rfl) (fun w10 x10 z10 => ?_)
            refine l_do 0 (by kernel_rfl) rfl rfl (by kernel_rfl) (by kernel_rfl) (by kernel_rfl) rfl rfl rfl (d_field rfl (k := 1) (r := 1) (by kernel_rfl) rfl rfl) ((Ext.refl (fun i => (Value.slice g (((ks.take k).eraseIdx n).length) c).ownBlock = some i) wr9).trans x10.no) ?_
            refine l_do 1 (by kernel_rfl) rfl rfl (by kernel_rfl) (by kernel_rfl) (by kernel_rfl) rfl rfl rfl (d_load rfl rfl (by kernel_rfl) (fun _ hx => (Bb.extO hx (own_ne Oa (by omega))).cel 1 rfl)) ((Ext.refl (fun i => (Value.slice g (((ks.take k).eraseIdx n).length) c).ownBlock = some i) wr9).trans x10.no) ?_
            refine l_do 2 (by kernel_rfl) rfl rfl (by kernel_rfl) (by kernel_rfl) (by kernel_rfl) rfl rfl rfl (d_field rfl (k := 1) (r := 1) (by kernel_rfl) rfl rfl) ((Ext.refl (fun i => (Value.slice g (((ks.take k).eraseIdx n).length) c).ownBlock = some i) wr9).trans x10.no) ?_
            refine l_do 3 (by kernel_rfl) rfl rfl (by kernel_rfl) (by kernel_rfl) (by kernel_rfl) rfl rfl rfl (d_load rfl rfl (by kernel_rfl) (fun _ hx => (B1r9.extO hx (own_ne Oa (by omega))).cel 1 rfl)) ((Ext.refl (fun i => (Value.slice g (((ks.take k).eraseIdx n).length) c).ownBlock = some i) wr9).trans x10.no) ?_
            refine l_do 4 (by kernel_rfl) rfl rfl (by kernel_rfl) (by kernel_rfl) (by kernel_rfl) rfl rfl rfl (d_move rfl rfl) ((Ext.refl (fun i => (Value.slice g (((ks.take k).eraseIdx n).length) c).ownBlock = some i) wr9).trans x10.no) ?_
            obtain ⟨x, hx⟩ : ∃ x, ks[k]? = some x := ⟨_, List.getElem?_eq_getElem (by omega)⟩
            have hat := hc _ _ hx
            refine l_do 5 (by kernel_rfl) rfl rfl (by kernel_rfl) (by kernel_rfl) (by kernel_rfl) rfl rfl rfl (d_indexE rfl (z := 1) (j := k) (r := k) (by kernel_rfl) rfl rfl rfl (by omega) hat (by omega)) ((Ext.refl (fun i => (Value.slice g (((ks.take k).eraseIdx n).length) c).ownBlock = some i) wr9).trans x10.no) ?_
            refine l_do 6 (by kernel_rfl) rfl rfl (by kernel_rfl) (by kernel_rfl) (by kernel_rfl) rfl rfl rfl (d_loadE rfl rfl (by kernel_rfl) (fun _ hx => hat.ext0 ((((((Ext.refl No w).trans x1).trans x2).trans x3).trans x9).transO hx f10 (by omega)))) ((Ext.refl (fun i => (Value.slice g (((ks.take k).eraseIdx n).length) c).ownBlock = some i) wr9).trans x10.no) ?_
            refine l_all [7] (by kernel_rfl) (by simp) ?_
            refine all1 ?_
            refine o_go rfl rfl rfl rfl (g_oneI rfl rfl) ?_
            rintro _ w11 ⟨b11, rfl, s11, R11, x11⟩
            have m11 := x11.size
            refine l_and (fun _ => (((Ext.refl (fun i => (Value.slice g (((ks.take k).eraseIdx n).length) c).ownBlock = some i) wr9).trans x10.no).trans x11.no)) ?_
            refine l_all [8] (by kernel_rfl) (by simp) ?_
            refine all1 ?_
            have o12 := ((Oa.ext0 x10).ext0 x11)
            refine o_go rfl rfl rfl rfl (g_appendI rfl rfl rfl (by simp) o12 R11 (by omega) (by first | omega | (simp <;> omega))) ?_
            rintro _ w12 ⟨g12, c12, rfl, O12, x12, y12⟩
            have m12 := x12.size
            refine l_and (fun _ => ((((Ext.refl (fun i => (Value.slice g (((ks.take k).eraseIdx n).length) c).ownBlock = some i) wr9).trans x10.no).trans x11.no).trans x12)) ?_
            refine l_do 9 (by kernel_rfl) rfl rfl (by kernel_rfl) (by kernel_rfl) (by kernel_rfl) rfl rfl rfl (d_field rfl (k := 1) (r := 1) (by kernel_rfl) rfl rfl) ((((Ext.refl (fun i => (Value.slice g (((ks.take k).eraseIdx n).length) c).ownBlock = some i) wr9).trans x10.no).trans x11.no).trans x12) ?_
            refine l_all [10] (by kernel_rfl) (by simp) ?_
            refine all1 ?_
            refine o_put rfl rfl rfl (p_store rfl rfl rfl (vs := [.slice g12 ((((ks.take k).eraseIdx n) ++ ([x])).length) c12]) rfl (by simp [Value.oneCell']) (by kernel_rfl) ((((Bb.ext0 x10).ext0 x11).extO x12 (own_ne Oa (by omega)))) (by simp) (out := [.bool lf, .slice g12 ((((ks.take k).eraseIdx n) ++ ([x])).length) c12, .slice g2 (((vs.take k).eraseIdx n).length) c2]) rfl) ?_
            rintro w13 ⟨B13, x13, t13⟩
            refine l_and (fun h => absurd rfl h) ?_
            refine l_done (by kernel_rfl) ?_
            have f14 := ((((Ob.ext0 x10).ext0 x11).extO x12 Ap).extb x13 (own_ne Ob (by omega)))
            refine l_region (Ext (fun i => (Value.slice g2 (((vs.take k).eraseIdx n).length) c2).ownBlock = some i) w13) 11 rfl (by kernel_rfl) (fun w14 x14 z14 => ?_)
            refine l_do 0 (by kernel_rfl) rfl rfl (by kernel_rfl) (by kernel_rfl) (by kernel_rfl) rfl rfl rfl (d_field rfl (k := 2) (r := 2) (by kernel_rfl) rfl rfl) ((Ext.refl (fun i => (Value.slice g2 (((vs.take k).eraseIdx n).length) c2).ownBlock = some i) w13).trans x14.no) ?_
            refine l_do 1 (by kernel_rfl) rfl rfl (by kernel_rfl) (by kernel_rfl) (by kernel_rfl) rfl rfl rfl (d_load rfl rfl (by kernel_rfl) (fun _ hx => (B13.extO hx (own_ne Ob (by omega))).cel 2 rfl)) ((Ext.refl (fun i => (Value.slice g2 (((vs.take k).eraseIdx n).length) c2).ownBlock = some i) w13).trans x14.no) ?_
            refine l_do 2 (by kernel_rfl) rfl rfl (by kernel_rfl) (by kernel_rfl) (by kernel_rfl) rfl rfl rfl (d_field rfl (k := 2) (r := 2) (by kernel_rfl) rfl rfl) ((Ext.refl (fun i => (Value.slice g2 (((vs.take k).eraseIdx n).length) c2).ownBlock = some i) w13).trans x14.no) ?_
            refine l_do 3 (by kernel_rfl) rfl rfl (by kernel_rfl) (by kernel_rfl) (by kernel_rfl) rfl rfl rfl (d_load rfl rfl (by kernel_rfl) (fun _ hx => (((((B1r9.ext0 x10).ext0 x11).extO x12 (own_ne Oa (by omega))).ext x13 (show ¬ (b1 = b7) by omega)).extO hx (own_ne Ob (by omega))).cel 2 rfl)) ((Ext.refl (fun i => (Value.slice g2 (((vs.take k).eraseIdx n).length) c2).ownBlock = some i) w13).trans x14.no) ?_
            refine l_do 4 (by kernel_rfl) rfl rfl (by kernel_rfl) (by kernel_rfl) (by kernel_rfl) rfl rfl rfl (d_move rfl rfl) ((Ext.refl (fun i => (Value.slice g2 (((vs.take k).eraseIdx n).length) c2).ownBlock = some i) w13).trans x14.no) ?_
            obtain ⟨y, hy⟩ : ∃ x, vs[k]? = some x := ⟨_, List.getElem?_eq_getElem (by omega)⟩
            have hbt := hd _ _ hy
            refine l_do 5 (by kernel_rfl) rfl rfl (by kernel_rfl) (by kernel_rfl) (by kernel_rfl) rfl rfl rfl (d_indexE rfl (z := 1) (j := k) (r := k) (by kernel_rfl) rfl rfl rfl (by omega) hbt (by omega)) ((Ext.refl (fun i => (Value.slice g2 (((vs.take k).eraseIdx n).length) c2).ownBlock = some i) w13).trans x14.no) ?_
            refine l_do 6 (by kernel_rfl) rfl rfl (by kernel_rfl) (by kernel_rfl) (by kernel_rfl) rfl rfl rfl (d_loadE rfl rfl (by kernel_rfl) (fun _ hx => hbt.ext0 ((((((((((Ext.refl No w).trans x1).trans x2).trans x3).trans x9).trans x10).trans x11).transO x12 o12 (by omega)).trans_new x13 (fun i hi => by subst hi; omega)).transO hx f14 (by omega)))) ((Ext.refl (fun i => (Value.slice g2 (((vs.take k).eraseIdx n).length) c2).ownBlock = some i) w13).trans x14.no) ?_
            refine l_all [7] (by kernel_rfl) (by simp) ?_
            refine all1 ?_
            refine o_go rfl rfl rfl rfl (g_oneI rfl rfl) ?_
            rintro _ w15 ⟨b15, rfl, s15, R15, x15⟩
            have m15 := x15.size
            refine l_and (fun _ => (((Ext.refl (fun i => (Value.slice g2 (((vs.take k).eraseIdx n).length) c2).ownBlock = some i) w13).trans x14.no).trans x15.no)) ?_
            refine l_all [8] (by kernel_rfl) (by simp) ?_
            refine all1 ?_
            have o16 := ((((((Ob.ext0 x10).ext0 x11).extO x12 Ap).extb x13 (own_ne Ob (by omega))).ext0 x14).ext0 x15)
            refine o_go rfl rfl rfl rfl (g_appendI rfl rfl rfl (by simp) o16 R15 (by omega) (by first | omega | (simp <;> omega))) ?_
            rintro _ w16 ⟨g16, c16, rfl, O16, x16, y16⟩
            have m16 := x16.size
            refine l_and (fun _ => ((((Ext.refl (fun i => (Value.slice g2 (((vs.take k).eraseIdx n).length) c2).ownBlock = some i) w13).trans x14.no).trans x15.no).trans x16)) ?_
            refine l_do 9 (by kernel_rfl) rfl rfl (by kernel_rfl) (by kernel_rfl) (by kernel_rfl) rfl rfl rfl (d_field rfl (k := 2) (r := 2) (by kernel_rfl) rfl rfl) ((((Ext.refl (fun i => (Value.slice g2 (((vs.take k).eraseIdx n).length) c2).ownBlock = some i) w13).trans x14.no).trans x15.no).trans x16) ?_
            refine l_all [10] (by kernel_rfl) (by simp) ?_
            refine all1 ?_
            refine o_put rfl rfl rfl (p_store rfl rfl rfl (vs := [.slice g16 ((((vs.take k).eraseIdx n) ++ ([y])).length) c16]) rfl (by simp [Value.oneCell']) (by kernel_rfl) ((((B13.ext0 x14).ext0 x15).extO x16 (own_ne Ob (by omega)))) (by simp) (out := [.bool lf, .slice g12 ((((ks.take k).eraseIdx n) ++ ([x])).length) c12, .slice g16 ((((vs.take k).eraseIdx n) ++ ([y])).length) c16]) rfl) ?_
            rintro w17 ⟨B17, x17, t17⟩
            refine l_and (fun h => absurd rfl h) ?_
            refine l_done (by kernel_rfl) ?_
            refine s_region ?_
            refine s_do rfl rfl rfl (d_move rfl rfl) ?_
            refine s_do rfl rfl rfl (d_add64 rfl rfl rfl (r := (k : Int) + 1) (by omega) (by omega)) ?_
            refine s_do rfl rfl rfl (d_assign rfl rfl) ?_
            refine s_end ?_
            intro _ hF
            refine ⟨(k + 1), (hF.cons (hF.cons (hF.cons (hF.cons (hF.cons (hF.cons (hF.cons hF.nil 7 _ _ rfl rfl) 6 _ _ rfl rfl) 5 _ _ rfl rfl) 4 _ _ rfl rfl) 2 _ _ rfl rfl) 1 _ _ rfl rfl) 8 _ _ rfl (by go_num)), ⟨((((((((x9.trans x10).trans x11).transO x12 o12 (by omega)).trans_new x13 (fun i hi => by subst hi; omega)).trans x14).trans x15).transO x16 o16 (by omega)).trans_new x17 (fun i hi => by subst hi; omega)), ((((((((B1r9.ext0 x10).ext0 x11).extO x12 (own_ne Oa (by omega))).ext x13 (show ¬ (b1 = b7) by omega)).ext0 x14).ext0 x15).extO x16 (own_ne Ob (by omega))).ext x17 (show ¬ (b1 = b7) by omega)), ((((((((B2r9.ext0 x10).ext0 x11).extO x12 (own_ne Oa (by omega))).ext x13 (show ¬ (b2 = b7) by omega)).ext0 x14).ext0 x15).extO x16 (own_ne Ob (by omega))).ext x17 (show ¬ (b2 = b7) by omega)), ?_⟩, ?_⟩
            · rw [erase_next _ _ _ _ hx (by omega), erase_next _ _ _ _ hy (by omega)]
              exact ⟨by omega, _, _, _, _, B17, (((((O12.extb x13 (ne_grown y12 (own_ne Oa (by omega)) (by omega))).ext0 x14).ext0 x15).extO x16 ((apart_grown y12 Ap ((Ob.ext0 x10).ext0 x11))).symm).extb x17 (ne_grown y12 (own_ne Oa (by omega)) (by omega))), (O16.extb x17 (ne_grown y16 (own_ne Ob (by omega)) (by omega))), ((apart_grown y16 ((apart_grown y12 Ap ((Ob.ext0 x10).ext0 x11))).symm (((O12.extb x13 (ne_grown y12 (own_ne Oa (by omega)) (by omega))).ext0 x14).ext0 x15))).symm⟩
            · omega
          · -- no: (k : Int) ≠ (n : Int)
            refine k_skip ?_
            refine s_region ?_
            refine s_do rfl rfl rfl (d_move rfl rfl) ?_
            refine s_do rfl rfl rfl (d_add64 rfl rfl rfl (r := (k : Int) + 1) (by omega) (by omega)) ?_
            refine s_do rfl rfl rfl (d_assign rfl rfl) ?_
            refine s_end ?_
            intro _ hF
            refine ⟨(k + 1), (hF.cons (hF.cons (hF.cons (hF.cons (hF.cons (hF.cons (hF.cons hF.nil 7 _ _ rfl rfl) 6 _ _ rfl rfl) 5 _ _ rfl rfl) 4 _ _ rfl rfl) 2 _ _ rfl rfl) 1 _ _ rfl rfl) 8 _ _ rfl (by go_num)), ⟨x9, B1r9, B2r9, ?_⟩, ?_⟩
            · obtain ⟨x, hx⟩ : ∃ x, ks[k]? = some x := ⟨_, List.getElem?_eq_getElem (by omega)⟩
              obtain ⟨y, hy⟩ : ∃ y, vs[k]? = some y := ⟨_, List.getElem?_eq_getElem (by omega)⟩
              obtain rfl : k = n := by omega
              rw [erase_here _ _ _ hx, erase_here _ _ _ hy]
              exact ⟨by omega, _, _, _, _, Bb, Oa, Ob, Ap⟩
            · omega
        · -- no: (k : Int) < (ks.length : Int)
          refine k_exit ?_
          refine k_here ?_
          refine k_seq ?_
          refine s_region ?_
          refine s_do rfl rfl rfl (d_loadAgg rfl rfl (vs := [.bool lf, .slice g (((ks.take k).eraseIdx n).length) c, .slice g2 (((vs.take k).eraseIdx n).length) c2]) (by kernel_rfl) (here (Bb.part 0 3 _ rfl))) ?_
          refine s_call rfl rfl rfl rfl rfl (fun w => Try.call11 _ w) (may_c lf _ _ ((ks.take k).eraseIdx n) ((vs.take k).eraseIdx n) _ Oa.rd Ob.rd) ?_
          rintro _ w18 ⟨rfl, x18⟩
          have m18 := x18.size
          refine s_do rfl rfl rfl (d_assign rfl rfl) ?_
          refine s_end ?_
          refine k_seq ?_
          refine k_seq ?_
          refine s_region ?_
          refine s_do rfl rfl rfl (d_move rfl rfl) ?_
          refine s_do rfl rfl rfl (d_not rfl rfl) ?_
          refine s_end ?_
          refine k_cond rfl (fun h6 => ?_) (fun h6 => ?_)
          · -- yes: (!okB lf ((ks.take k).eraseIdx n) ((vs.take k).eraseIdx n))
            have hok2 : okB lf (ks.eraseIdx n) (vs.eraseIdx n) = false := by rw [show k = ks.length by omega, List.take_length] at h6; rw [p1, List.take_length] at h6; simpa using h6
            refine k_seq ?_
            refine s_region ?_
            refine s_do rfl rfl rfl (d_build rfl rfl (out := [.bool false, .slice none 0 0, .slice none 0 0]) (by kernel_rfl)) ?_
            refine s_put rfl rfl (p_store rfl rfl rfl (vs := [.bool false, .slice none 0 0, .slice none 0 0]) rfl (by simp [Value.oneCell']) (by kernel_rfl) ((B2r9.ext0 x18)) (by simp) (out := [.bool false, .slice none 0 0, .slice none 0 0]) rfl) ?_
            rintro w19 ⟨B19, x19, t19⟩
            refine s_do rfl rfl rfl (d_assign rfl rfl) ?_
            refine s_end ?_
            refine k_ret ?_
            refine doneL rfl [.agg #[.bool false, .slice none 0 0, .slice none 0 0], .int .i64 22] ⟨⟨_, _, rfl, run_loadBlk (by kernel_rfl) (B19) (vs := [.bool false, .slice none 0 0, .slice none 0 0]) rfl⟩, ⟨rfl, trivial⟩⟩ (v := .tuple #[.agg #[.bool false, .slice none 0 0, .slice none 0 0], .int .i64 22]) rfl ?_
            have X := (((((((Ext.refl No w).trans x1).trans x2).trans x3).trans x9).trans x18).trans_new x19 (fun i hi => by subst hi; omega))
            have e : dropN lf ks vs (n : Int) = (false, [], [], 22) := by simp [dropN, hok, hn, hok2]
            rw [e]
            exact ⟨_, rfl, ResN.cast (ks := []) (vs := []) (ResN.zero _ _) (by simp) (by simp), X⟩
          · -- no: (!okB lf ((ks.take k).eraseIdx n) ((vs.take k).eraseIdx n))
            have hok2 : okB lf (ks.eraseIdx n) (vs.eraseIdx n) = true := by rw [show k = ks.length by omega, List.take_length] at h6; rw [p1, List.take_length] at h6; simpa using h6
            refine k_skip ?_
            refine k_seq ?_
            refine s_region ?_
            refine s_do rfl rfl rfl (d_loadAgg rfl rfl (vs := [.bool lf, .slice g (((ks.take k).eraseIdx n).length) c, .slice g2 (((vs.take k).eraseIdx n).length) c2]) (by kernel_rfl) (here ((Bb.ext0 x18).part 0 3 _ rfl))) ?_
            refine s_put rfl rfl (p_store rfl rfl rfl (vs := [.bool lf, .slice g (((ks.take k).eraseIdx n).length) c, .slice g2 (((vs.take k).eraseIdx n).length) c2]) rfl (by simp [Value.oneCell']) (by kernel_rfl) ((B2r9.ext0 x18)) (by simp) (out := [.bool lf, .slice g (((ks.take k).eraseIdx n).length) c, .slice g2 (((vs.take k).eraseIdx n).length) c2]) rfl) ?_
            rintro w20 ⟨B20, x20, t20⟩
            refine s_do rfl rfl rfl (d_assign rfl rfl) ?_
            refine s_end ?_
            refine k_ret ?_
            refine doneL rfl [.agg #[.bool lf, .slice g (((ks.take k).eraseIdx n).length) c, .slice g2 (((vs.take k).eraseIdx n).length) c2], .int .i64 0] ⟨⟨_, _, rfl, run_loadBlk (by kernel_rfl) (B20) (vs := [.bool lf, .slice g (((ks.take k).eraseIdx n).length) c, .slice g2 (((vs.take k).eraseIdx n).length) c2]) rfl⟩, ⟨rfl, trivial⟩⟩ (v := .tuple #[.agg #[.bool lf, .slice g (((ks.take k).eraseIdx n).length) c, .slice g2 (((vs.take k).eraseIdx n).length) c2], .int .i64 0]) rfl ?_
            have X := (((((((Ext.refl No w).trans x1).trans x2).trans x3).trans x9).trans x18).trans_new x20 (fun i hi => by subst hi; omega))
            have e : dropN lf ks vs (n : Int) = (lf, ks.eraseIdx n, vs.eraseIdx n, 0) := by simp [dropN, hok, hn, hok2]
            rw [e]
            exact ⟨_, rfl, ResN.cast (ks := (ks.take k).eraseIdx n) (vs := (vs.take k).eraseIdx n) (ResN.mk (((Oa.ext0 x18).extb x20 (own_ne Oa (by omega))).base (by omega)) (((Ob.ext0 x18).extb x20 (own_ne Ob (by omega))).base (by omega)) Ap) (by rw [show k = ks.length by omega, List.take_length]) (by rw [show k = vs.length by omega, List.take_length]), X⟩

theorem same_c (lf lf2 : Bool) (kv vv kv2 vv2 : Value) (ks vs ks2 vs2 : List Int) (w : World) (hk : RdI kv ks w) (hv : RdI vv vs w) (hk2 : RdI kv2 ks2 w) (hv2 : RdI vv2 vs2 w) :
    Calls Try.prog 20 #[.agg #[.bool lf, kv, vv], .agg #[.bool lf2, kv2, vv2]] w (Ret fun v w' => v = .bool (decide (lf = lf2 ∧ ks = ks2 ∧ vs = vs2)) ∧ Ext No w w') := by
  have hk0 := hk; have hv0 := hv
  obtain ⟨ka, kc, rfl, hkc, hkm, hc⟩ := hk0.opened
  obtain ⟨va, vc, rfl, hvc, hvm, hd⟩ := hv0.opened
  have hk02 := hk2; have hv02 := hv2
  obtain ⟨ka2, kc2, rfl, hkc2, hkm2, hc2⟩ := hk02.opened
  obtain ⟨va2, vc2, rfl, hvc2, hvm2, hd2⟩ := hv02.opened
  refine enter Try.func20 rfl 66 Try.ntmps20 rfl ?_
  refine k_seq ?_
  refine s_region ?_
  refine s_go rfl rfl rfl (g_box rfl rfl rfl) ?_
  rintro _ w1 ⟨b1, rfl, s1, t1, B1, x1⟩
  refine s_go rfl rfl rfl (g_box rfl rfl rfl) ?_
  rintro _ w2 ⟨b2, rfl, s2, t2, B2, x2⟩
  refine s_do rfl rfl rfl (d_assign rfl rfl) ?_
  refine s_end ?_
  refine k_seq ?_
  refine k_seq ?_
  refine s_region ?_
  refine s_do rfl rfl rfl (d_field rfl (k := 0) (r := 0) (by kernel_rfl) rfl rfl) ?_
  refine s_do rfl rfl rfl (d_load rfl rfl (by kernel_rfl) (here ((B1.ext0 x2).cel 0 rfl))) ?_
  refine s_do rfl rfl rfl (d_field rfl (k := 0) (r := 0) (by kernel_rfl) rfl rfl) ?_
  refine s_do rfl rfl rfl (d_load rfl rfl (by kernel_rfl) (here (B2.cel 0 rfl))) ?_
  refine s_do rfl rfl rfl (d_neqB rfl (by kernel_rfl) rfl rfl) ?_
  refine s_do rfl rfl rfl (d_move rfl rfl) ?_
  refine s_part 12 rfl (fun h1 => ?_) (fun h1 => ?_)
  · -- yes: lf ≠ lf2
    refine s_skip rfl rfl rfl ?_
    refine s_skip rfl rfl rfl ?_
    refine s_skip rfl rfl rfl ?_
    refine s_skip rfl rfl rfl ?_
    refine s_skip rfl rfl rfl ?_
    refine s_skip rfl rfl rfl ?_
    refine s_skip rfl rfl rfl ?_
    refine s_do rfl rfl rfl (d_pick_t rfl rfl rfl) ?_
    refine s_do rfl rfl rfl (d_move rfl rfl) ?_
    refine s_skip rfl rfl rfl ?_
    refine s_skip rfl rfl rfl ?_
    refine s_skip rfl rfl rfl ?_
    refine s_skip rfl rfl rfl ?_
    refine s_skip rfl rfl rfl ?_
    refine s_skip rfl rfl rfl ?_
    refine s_skip rfl rfl rfl ?_
    refine s_do rfl rfl rfl (d_pick_t rfl rfl rfl) ?_
    refine s_end ?_
    refine k_true rfl ?_
    refine k_seq ?_
    refine s_region ?_
    refine s_do rfl rfl rfl (d_assign rfl rfl) ?_
    refine s_end ?_
    refine k_ret ?_
    refine doneL rfl [.bool false] ⟨rfl, trivial⟩ (v := .bool false) rfl ?_
    have X := (((Ext.refl No w).trans x1).trans x2)
    refine ⟨congrArg Value.bool (decide_eq_false ?_).symm, X⟩
    rintro ⟨e1, e2, e3⟩
    subst e1; subst e2; subst e3
    first | omega | (rw [hx] at hy; cases hy; omega) | simp_all
  · -- no: lf ≠ lf2
    refine s_do rfl rfl rfl (d_field rfl (k := 1) (r := 1) (by kernel_rfl) rfl rfl) ?_
    refine s_do rfl rfl rfl (d_load rfl rfl (by kernel_rfl) (here ((B1.ext0 x2).cel 1 rfl))) ?_
    refine s_do rfl rfl rfl (d_len rfl (z := 1) (by kernel_rfl) rfl) ?_
    refine s_do rfl rfl rfl (d_field rfl (k := 1) (r := 1) (by kernel_rfl) rfl rfl) ?_
    refine s_do rfl rfl rfl (d_load rfl rfl (by kernel_rfl) (here (B2.cel 1 rfl))) ?_
    refine s_do rfl rfl rfl (d_len rfl (z := 1) (by kernel_rfl) rfl) ?_
    refine s_do rfl rfl rfl (d_neq rfl rfl rfl) ?_
    refine s_do rfl rfl rfl (d_pick_f rfl rfl rfl) ?_
    refine s_do rfl rfl rfl (d_move rfl rfl) ?_
    refine s_part 21 rfl (fun h2 => ?_) (fun h2 => ?_)
    · -- yes: (ks.length : Int) ≠ (ks2.length : Int)
      refine s_skip rfl rfl rfl ?_
      refine s_skip rfl rfl rfl ?_
      refine s_skip rfl rfl rfl ?_
      refine s_skip rfl rfl rfl ?_
      refine s_skip rfl rfl rfl ?_
      refine s_skip rfl rfl rfl ?_
      refine s_skip rfl rfl rfl ?_
      refine s_do rfl rfl rfl (d_pick_t rfl rfl rfl) ?_
      refine s_end ?_
      refine k_true rfl ?_
      refine k_seq ?_
      refine s_region ?_
      refine s_do rfl rfl rfl (d_assign rfl rfl) ?_
      refine s_end ?_
      refine k_ret ?_
      refine doneL rfl [.bool false] ⟨rfl, trivial⟩ (v := .bool false) rfl ?_
      have X := (((Ext.refl No w).trans x1).trans x2)
      refine ⟨congrArg Value.bool (decide_eq_false ?_).symm, X⟩
      rintro ⟨e1, e2, e3⟩
      subst e1; subst e2; subst e3
      first | omega | (rw [hx] at hy; cases hy; omega) | simp_all
    · -- no: (ks.length : Int) ≠ (ks2.length : Int)
      refine s_do rfl rfl rfl (d_field rfl (k := 2) (r := 2) (by kernel_rfl) rfl rfl) ?_
      refine s_do rfl rfl rfl (d_load rfl rfl (by kernel_rfl) (here ((B1.ext0 x2).cel 2 rfl))) ?_
      refine s_do rfl rfl rfl (d_len rfl (z := 1) (by kernel_rfl) rfl) ?_
      refine s_do rfl rfl rfl (d_field rfl (k := 2) (r := 2) (by kernel_rfl) rfl rfl) ?_
      refine s_do rfl rfl rfl (d_load rfl rfl (by kernel_rfl) (here (B2.cel 2 rfl))) ?_
      refine s_do rfl rfl rfl (d_len rfl (z := 1) (by kernel_rfl) rfl) ?_
      refine s_do rfl rfl rfl (d_neq rfl rfl rfl) ?_
      refine s_do rfl rfl rfl (d_pick_f rfl rfl rfl) ?_
      refine s_end ?_
      refine k_dec rfl (fun h3 => ?_) (fun h3 => ?_)
      · -- yes: (vs.length : Int) ≠ (vs2.length : Int)
        refine k_seq ?_
        refine s_region ?_
        refine s_do rfl rfl rfl (d_assign rfl rfl) ?_
        refine s_end ?_
        refine k_ret ?_
        refine doneL rfl [.bool false] ⟨rfl, trivial⟩ (v := .bool false) rfl ?_
        have X := (((Ext.refl No w).trans x1).trans x2)
        refine ⟨congrArg Value.bool (decide_eq_false ?_).symm, X⟩
        rintro ⟨e1, e2, e3⟩
        subst e1; subst e2; subst e3
        first | omega | (rw [hx] at hy; cases hy; omega) | simp_all
      · -- no: (vs.length : Int) ≠ (vs2.length : Int)
        refine k_skip ?_
        refine k_seq ?_
        refine k_seq ?_
        refine s_region ?_
        refine s_do rfl rfl rfl (d_assign rfl rfl) ?_
        refine s_end ?_
        refine k_block ?_
        refine c_loop (σ := Nat) (fun k => [(5, .int .i64 (k : Int)), (2, .pointer (some ⟨b1, 0, none⟩)), (3, .pointer (some ⟨b2, 0, none⟩))])
          (fun k wr => Ext No w2 wr ∧ (k ≤ ks.length ∧ ∀ (j : Nat) (x y : Int), j < k → ks[j]? = some x → ks2[j]? = some y → x = y)) (fun k => ks.length - k) 0
          (fun _ hF => (hF.cons (hF.cons (hF.cons hF.nil 3 _ _ rfl rfl) 2 _ _ rfl rfl) 5 _ _ rfl (by go_num))) ⟨Ext.refl _ _, by omega, fun j x y h => by omega⟩ ?_
        rintro k wr3 ⟨x3, hI⟩
        have m3 := x3.size
        obtain ⟨hkl, hall⟩ := hI
        refine k_seq ?_
        refine k_seq ?_
        refine s_region ?_
        refine s_do rfl rfl rfl (d_move rfl rfl) ?_
        refine s_do rfl rfl rfl (d_field rfl (k := 1) (r := 1) (by kernel_rfl) rfl rfl) ?_
        refine s_do rfl rfl rfl (d_load rfl rfl (by kernel_rfl) (here (((B1.ext0 x2).ext0 x3).cel 1 rfl))) ?_
        refine s_do rfl rfl rfl (d_len rfl (z := 1) (by kernel_rfl) rfl) ?_
        refine s_do rfl rfl rfl (d_lss rfl rfl rfl) ?_
        refine s_end ?_
        refine k_dec rfl (fun h4 => ?_) (fun h4 => ?_)
        · -- yes: (k : Int) < (ks.length : Int)
          refine k_skip ?_
          refine k_seq ?_
          refine k_block ?_
          refine k_seq ?_
          refine q_region (Ext No wr3) (by kernel_rfl) (by kernel_rfl) ((Ext.refl _ _).drew) ?_
          refine q_do rfl rfl rfl (d_field rfl (k := 1) (r := 1) (by kernel_rfl) rfl rfl) ?_
          refine q_do rfl rfl rfl (d_load rfl rfl (by kernel_rfl) (fun _ hx => (((B1.ext0 x2).ext0 x3).ext0 hx).cel 1 rfl)) ?_
          refine q_do rfl rfl rfl (d_move rfl rfl) ?_
          obtain ⟨x, hx⟩ : ∃ x, ks[k]? = some x := ⟨_, List.getElem?_eq_getElem (by omega)⟩
          have hat := hc _ _ hx
          refine q_do rfl rfl rfl (d_indexE rfl (z := 1) (j := k) (r := k) (by kernel_rfl) rfl rfl rfl (by omega) hat (by omega)) ?_
          refine q_do rfl rfl rfl (d_loadE rfl rfl (by kernel_rfl) (fun _ hx => ((((hat.ext0 x1).ext0 x2).ext0 x3).ext0 hx))) ?_
          refine q_do rfl rfl rfl (d_field rfl (k := 1) (r := 1) (by kernel_rfl) rfl rfl) ?_
          refine q_do rfl rfl rfl (d_load rfl rfl (by kernel_rfl) (fun _ hx => ((B2.ext0 x3).ext0 hx).cel 1 rfl)) ?_
          refine q_do rfl rfl rfl (d_move rfl rfl) ?_
          obtain ⟨y, hy⟩ : ∃ x, ks2[k]? = some x := ⟨_, List.getElem?_eq_getElem (by omega)⟩
          have hbt := hc2 _ _ hy
          refine q_do rfl rfl rfl (d_indexE rfl (z := 1) (j := k) (r := k) (by kernel_rfl) rfl rfl rfl (by omega) hbt (by omega)) ?_
          refine q_do rfl rfl rfl (d_loadE rfl rfl (by kernel_rfl) (fun _ hx => ((((hbt.ext0 x1).ext0 x2).ext0 x3).ext0 hx))) ?_
          refine q_do rfl rfl rfl (d_neq rfl rfl rfl) ?_
          refine q_end (fun w4 x4 => ?_)
          have m4 := x4.size
          refine k_dec rfl (fun h5 => ?_) (fun h5 => ?_)
          · -- yes: (x : Int) ≠ y
            refine k_seq ?_
            refine s_region ?_
            refine s_do rfl rfl rfl (d_assign rfl rfl) ?_
            refine s_end ?_
            refine k_ret ?_
            refine doneL rfl [.bool false] ⟨rfl, trivial⟩ (v := .bool false) rfl ?_
            have X := (((((Ext.refl No w).trans x1).trans x2).trans x3).trans x4)
            refine ⟨congrArg Value.bool (decide_eq_false ?_).symm, X⟩
            rintro ⟨e1, e2, e3⟩
            subst e1; subst e2; subst e3
            first | omega | (rw [hx] at hy; cases hy; omega) | simp_all
          · -- no: (x : Int) ≠ y
            refine k_skip ?_
            refine s_region ?_
            refine s_do rfl rfl rfl (d_move rfl rfl) ?_
            refine s_do rfl rfl rfl (d_add64 rfl rfl rfl (r := (k : Int) + 1) (by omega) (by omega)) ?_
            refine s_do rfl rfl rfl (d_assign rfl rfl) ?_
            refine s_end ?_
            intro _ hF
            refine ⟨(k + 1), (hF.cons (hF.cons (hF.cons hF.nil 3 _ _ rfl rfl) 2 _ _ rfl rfl) 5 _ _ rfl (by go_num)), ⟨(x3.trans x4), ?_⟩, ?_⟩
            · refine ⟨by omega, fun j u v hj hu hv => ?_⟩
              rcases Nat.lt_or_ge j k with h | h
              · exact hall j u v h hu hv
              · obtain rfl : j = k := by omega
                rw [hx] at hu; rw [hy] at hv; cases hu; cases hv; omega
            · omega
        · -- no: (k : Int) < (ks.length : Int)
          refine k_exit ?_
          refine k_here ?_
          refine k_seq ?_
          refine k_seq ?_
          refine s_region ?_
          refine s_do rfl rfl rfl (d_assign rfl rfl) ?_
          refine s_end ?_
          refine k_block ?_
          refine c_loop (σ := Nat) (fun k2 => [(6, .int .i64 (k2 : Int)), (2, .pointer (some ⟨b1, 0, none⟩)), (3, .pointer (some ⟨b2, 0, none⟩))])
            (fun k2 wr => Ext No wr3 wr ∧ (k2 ≤ vs.length ∧ ∀ (j : Nat) (x y : Int), j < k2 → vs[j]? = some x → vs2[j]? = some y → x = y)) (fun k2 => vs.length - k2) 0
            (fun _ hF => (hF.cons (hF.cons (hF.cons hF.nil 3 _ _ rfl rfl) 2 _ _ rfl rfl) 6 _ _ rfl (by go_num))) ⟨Ext.refl _ _, by omega, fun j x y h => by omega⟩ ?_
          rintro k2 wr5 ⟨x5, hI⟩
          have m5 := x5.size
          obtain ⟨hkl2, hall2⟩ := hI
          refine k_seq ?_
          refine k_seq ?_
          refine s_region ?_
          refine s_do rfl rfl rfl (d_move rfl rfl) ?_
          refine s_do rfl rfl rfl (d_field rfl (k := 2) (r := 2) (by kernel_rfl) rfl rfl) ?_
          refine s_do rfl rfl rfl (d_load rfl rfl (by kernel_rfl) (here ((((B1.ext0 x2).ext0 x3).ext0 x5).cel 2 rfl))) ?_
          refine s_do rfl rfl rfl (d_len rfl (z := 1) (by kernel_rfl) rfl) ?_
          refine s_do rfl rfl rfl (d_lss rfl rfl rfl) ?_
          refine s_end ?_
          refine k_dec rfl (fun h6 => ?_) (fun h6 => ?_)
          · -- yes: (k2 : Int) < (vs.length : Int)
            refine k_skip ?_
            refine k_seq ?_
            refine k_block ?_
            refine k_seq ?_
            refine q_region (Ext No wr5) (by kernel_rfl) (by kernel_rfl) ((Ext.refl _ _).drew) ?_
            refine q_do rfl rfl rfl (d_field rfl (k := 2) (r := 2) (by kernel_rfl) rfl rfl) ?_
            refine q_do rfl rfl rfl (d_load rfl rfl (by kernel_rfl) (fun _ hx => ((((B1.ext0 x2).ext0 x3).ext0 x5).ext0 hx).cel 2 rfl)) ?_
            refine q_do rfl rfl rfl (d_move rfl rfl) ?_
            obtain ⟨x, hx⟩ : ∃ x, vs[k2]? = some x := ⟨_, List.getElem?_eq_getElem (by omega)⟩
            have hat := hd _ _ hx
            refine q_do rfl rfl rfl (d_indexE rfl (z := 1) (j := k2) (r := k2) (by kernel_rfl) rfl rfl rfl (by omega) hat (by omega)) ?_
            refine q_do rfl rfl rfl (d_loadE rfl rfl (by kernel_rfl) (fun _ hx => (((((hat.ext0 x1).ext0 x2).ext0 x3).ext0 x5).ext0 hx))) ?_
            refine q_do rfl rfl rfl (d_field rfl (k := 2) (r := 2) (by kernel_rfl) rfl rfl) ?_
            refine q_do rfl rfl rfl (d_load rfl rfl (by kernel_rfl) (fun _ hx => (((B2.ext0 x3).ext0 x5).ext0 hx).cel 2 rfl)) ?_
            refine q_do rfl rfl rfl (d_move rfl rfl) ?_
            obtain ⟨y, hy⟩ : ∃ x, vs2[k2]? = some x := ⟨_, List.getElem?_eq_getElem (by omega)⟩
            have hbt := hd2 _ _ hy
            refine q_do rfl rfl rfl (d_indexE rfl (z := 1) (j := k2) (r := k2) (by kernel_rfl) rfl rfl rfl (by omega) hbt (by omega)) ?_
            refine q_do rfl rfl rfl (d_loadE rfl rfl (by kernel_rfl) (fun _ hx => (((((hbt.ext0 x1).ext0 x2).ext0 x3).ext0 x5).ext0 hx))) ?_
            refine q_do rfl rfl rfl (d_neq rfl rfl rfl) ?_
            refine q_end (fun w6 x6 => ?_)
            have m6 := x6.size
            refine k_dec rfl (fun h7 => ?_) (fun h7 => ?_)
            · -- yes: (x : Int) ≠ y
              refine k_seq ?_
              refine s_region ?_
              refine s_do rfl rfl rfl (d_assign rfl rfl) ?_
              refine s_end ?_
              refine k_ret ?_
              refine doneL rfl [.bool false] ⟨rfl, trivial⟩ (v := .bool false) rfl ?_
              have X := ((((((Ext.refl No w).trans x1).trans x2).trans x3).trans x5).trans x6)
              refine ⟨congrArg Value.bool (decide_eq_false ?_).symm, X⟩
              rintro ⟨e1, e2, e3⟩
              subst e1; subst e2; subst e3
              first | omega | (rw [hx] at hy; cases hy; omega) | simp_all
            · -- no: (x : Int) ≠ y
              refine k_skip ?_
              refine s_region ?_
              refine s_do rfl rfl rfl (d_move rfl rfl) ?_
              refine s_do rfl rfl rfl (d_add64 rfl rfl rfl (r := (k2 : Int) + 1) (by omega) (by omega)) ?_
              refine s_do rfl rfl rfl (d_assign rfl rfl) ?_
              refine s_end ?_
              intro _ hF
              refine ⟨(k2 + 1), (hF.cons (hF.cons (hF.cons hF.nil 3 _ _ rfl rfl) 2 _ _ rfl rfl) 6 _ _ rfl (by go_num)), ⟨(x5.trans x6), ?_⟩, ?_⟩
              · refine ⟨by omega, fun j u v hj hu hv => ?_⟩
                rcases Nat.lt_or_ge j k2 with h | h
                · exact hall2 j u v h hu hv
                · obtain rfl : j = k2 := by omega
                  rw [hx] at hu; rw [hy] at hv; cases hu; cases hv; omega
              · omega
          · -- no: (k2 : Int) < (vs.length : Int)
            refine k_exit ?_
            refine k_here ?_
            refine k_seq ?_
            refine s_region ?_
            refine s_do rfl rfl rfl (d_assign rfl rfl) ?_
            refine s_end ?_
            refine k_ret ?_
            refine doneL rfl [.bool true] ⟨rfl, trivial⟩ (v := .bool true) rfl ?_
            have X := (((((Ext.refl No w).trans x1).trans x2).trans x3).trans x5)
            refine ⟨congrArg Value.bool (decide_eq_true ⟨by simpa using h1, ?_, ?_⟩).symm, X⟩
            · exact same_all _ _ k (by omega) (by omega) hall
            · exact same_all _ _ k2 (by omega) (by omega) hall2
end Go.Proofs.Yteehoppklgcggaa
