/-
  Walks of the laws of package node. No condition.
-/
import Derived.Test.YteehoppklgcggaaNodeC
set_option maxRecDepth 100000
namespace Go.Proofs.Yteehoppklgcggaa
open Go.RowKit
theorem checks_c (lf : Bool) (kv vv : Value) (ks vs : List Int) (w : World) (hk : RdI kv ks w) (hv : RdI vv vs w) :
    Calls Try.prog 3 #[.agg #[.bool lf, kv, vv]] w (Ret fun v w' => v = .bool true ∧ Ext No w w') := by
  have hk0 := hk; have hv0 := hv
  obtain ⟨ka, kc, rfl, hkc, hkm, hc⟩ := hk0.opened
  obtain ⟨va, vc, rfl, hvc, hvm, hd⟩ := hv0.opened
  refine enter Try.func3 rfl 22 Try.ntmps3 rfl ?_
  refine k_seq ?_
  refine s_region ?_
  refine s_go rfl rfl rfl (g_box rfl rfl rfl) ?_
  rintro _ w1 ⟨b1, rfl, s1, t1, B1, x1⟩
  refine s_do rfl rfl rfl (d_assign rfl rfl) ?_
  refine s_end ?_
  refine k_seq ?_
  refine s_region ?_
  refine s_do rfl rfl rfl (d_loadAgg rfl rfl (vs := [.bool lf, .slice ka ks.length kc, .slice va vs.length vc]) (by kernel_rfl) (here (B1.part 0 3 _ rfl))) ?_
  refine s_call rfl rfl rfl rfl rfl (fun w => Try.call11 _ w) (may_c lf _ _ ks vs _ (hk.ext0 x1) (hv.ext0 x1)) ?_
  rintro _ w2 ⟨rfl, x2⟩
  have m2 := x2.size
  refine s_do rfl rfl rfl (d_assign rfl rfl) ?_
  refine s_end ?_
  refine k_seq ?_
  refine s_region ?_
  refine s_do rfl rfl rfl (d_loadAgg rfl rfl (vs := [.bool lf, .slice ka ks.length kc, .slice va vs.length vc]) (by kernel_rfl) (here ((B1.ext0 x2).part 0 3 _ rfl))) ?_
  refine s_call rfl rfl rfl rfl rfl (fun w => Try.call12 _ w) (check_c lf _ _ ks vs _ ((hk.ext0 x1).ext0 x2) ((hv.ext0 x1).ext0 x2)) ?_
  rintro _ w3 ⟨rfl, x3⟩
  have m3 := x3.size
  refine s_do rfl rfl rfl (d_eql rfl rfl rfl) ?_
  refine s_do rfl rfl rfl (d_move rfl rfl) ?_
  refine s_do rfl rfl rfl (d_eqlB rfl (by kernel_rfl) rfl rfl) ?_
  refine s_do rfl rfl rfl (d_move rfl rfl) ?_
  refine s_part 11 rfl (fun h1 => ?_) (fun h1 => ?_)
  · -- yes: (decide ((errN (okB lf ks vs) : Int) = 0)) = (okB lf ks vs)
    refine s_do rfl rfl rfl (d_move rfl rfl) ?_
    refine s_do rfl rfl rfl (d_move rfl rfl) ?_
    refine s_part_b 13 rfl (fun h2 => ?_) (fun h2 => ?_)
    · -- yes: okB lf ks vs
      refine s_skip rfl rfl rfl ?_
      refine s_skip rfl rfl rfl ?_
      refine s_skip rfl rfl rfl ?_
      refine s_do rfl rfl rfl (d_pick_t rfl rfl rfl) ?_
      refine s_do rfl rfl rfl (d_pick_t rfl rfl rfl) ?_
      refine s_do rfl rfl rfl (d_move rfl rfl) ?_
      refine s_call rfl rfl rfl rfl rfl (fun w => Try.call13 _ w) (lives_c _) ?_
      rintro _ w4 ⟨rfl, x4⟩
      have m4 := x4.size
      refine s_do rfl rfl rfl (d_pick_t rfl rfl rfl) ?_
      refine s_do rfl rfl rfl (d_assign rfl rfl) ?_
      refine s_end ?_
      refine k_ret ?_
      refine doneL rfl [.bool true] ⟨rfl, trivial⟩ (v := .bool true) rfl ?_
      have X := (((((Ext.refl No w).trans x1).trans x2).trans x3).trans x4)
      exact ⟨by simp, X⟩
    · -- no: okB lf ks vs
      refine s_do rfl rfl rfl (d_loadAgg rfl rfl (vs := [.bool lf, .slice ka ks.length kc, .slice va vs.length vc]) (by kernel_rfl) (here (((B1.ext0 x2).ext0 x3).part 0 3 _ rfl))) ?_
      refine s_call rfl rfl rfl rfl rfl (fun w => Try.call12 _ w) (check_c lf _ _ ks vs _ (((hk.ext0 x1).ext0 x2).ext0 x3) (((hv.ext0 x1).ext0 x2).ext0 x3)) ?_
      rintro _ w5 ⟨rfl, x5⟩
      have m5 := x5.size
      refine s_do rfl rfl rfl (d_eql rfl rfl rfl) ?_
      refine s_do rfl rfl rfl (d_pick_f rfl rfl rfl) ?_
      refine s_do rfl rfl rfl (d_pick_t rfl rfl rfl) ?_
      refine s_do rfl rfl rfl (d_move rfl rfl) ?_
      refine s_part 19 rfl (fun h3 => ?_) (fun h3 => ?_)
      · -- yes: (errN (okB lf ks vs) : Int) = 22
        refine s_call rfl rfl rfl rfl rfl (fun w => Try.call13 _ w) (lives_c _) ?_
        rintro _ w6 ⟨rfl, x6⟩
        have m6 := x6.size
        refine s_do rfl rfl rfl (d_pick_t rfl rfl rfl) ?_
        refine s_do rfl rfl rfl (d_assign rfl rfl) ?_
        refine s_end ?_
        refine k_ret ?_
        refine doneL rfl [.bool true] ⟨rfl, trivial⟩ (v := .bool true) rfl ?_
        have X := ((((((Ext.refl No w).trans x1).trans x2).trans x3).trans x5).trans x6)
        exact ⟨by simp, X⟩
      · exfalso; simp [h2, errN] at h3
  · exfalso; exact h1 (by cases okB lf ks vs <;> simp [errN])

theorem finds_c (lf : Bool) (kv vv : Value) (ks vs : List Int) (key : Int) (w : World) (hk : RdI kv ks w) (hv : RdI vv vs w) :
    Calls Try.prog 4 #[.agg #[.bool lf, kv, vv], .int .i64 key] w (Ret fun v w' => v = .bool true ∧ Ext No w w') := by
  have hk0 := hk; have hv0 := hv
  obtain ⟨ka, kc, rfl, hkc, hkm, hc⟩ := hk0.opened
  obtain ⟨va, vc, rfl, hvc, hvm, hd⟩ := hv0.opened
  refine enter Try.func4 rfl 41 Try.ntmps4 rfl ?_
  refine k_seq ?_
  refine s_region ?_
  refine s_go rfl rfl rfl (g_box rfl rfl rfl) ?_
  rintro _ w1 ⟨b1, rfl, s1, t1, B1, x1⟩
  refine s_do rfl rfl rfl (d_assign rfl rfl) ?_
  refine s_end ?_
  refine k_seq ?_
  refine s_region ?_
  refine s_do rfl rfl rfl (d_loadAgg rfl rfl (vs := [.bool lf, .slice ka ks.length kc, .slice va vs.length vc]) (by kernel_rfl) (here (B1.part 0 3 _ rfl))) ?_
  refine s_do rfl rfl rfl (d_move rfl rfl) ?_
  refine s_call rfl rfl rfl rfl rfl (fun w => Try.call14 _ w) (find_c lf _ _ ks _ _ (hk.ext0 x1)) ?_
  rintro _ w2 ⟨rfl, x2⟩
  have m2 := x2.size
  refine s_do rfl rfl rfl (d_move rfl rfl) ?_
  refine s_do rfl rfl rfl (d_extract rfl rfl rfl) ?_
  refine s_do rfl rfl rfl (d_extract rfl rfl rfl) ?_
  refine s_do rfl rfl rfl (d_assign rfl rfl) ?_
  refine s_do rfl rfl rfl (d_assign rfl rfl) ?_
  refine s_end ?_
  refine k_seq ?_
  refine s_region ?_
  refine s_do rfl rfl rfl (d_loadAgg rfl rfl (vs := [.bool lf, .slice ka ks.length kc, .slice va vs.length vc]) (by kernel_rfl) (here ((B1.ext0 x2).part 0 3 _ rfl))) ?_
  refine s_do rfl rfl rfl (d_move rfl rfl) ?_
  refine s_call rfl rfl rfl rfl rfl (fun w => Try.call15 _ w) (rfind_c lf _ _ ks _ _ ((hk.ext0 x1).ext0 x2)) ?_
  rintro _ w3 ⟨rfl, x3⟩
  have m3 := x3.size
  refine s_do rfl rfl rfl (d_move rfl rfl) ?_
  refine s_do rfl rfl rfl (d_extract rfl rfl rfl) ?_
  refine s_do rfl rfl rfl (d_extract rfl rfl rfl) ?_
  refine s_do rfl rfl rfl (d_assign rfl rfl) ?_
  refine s_do rfl rfl rfl (d_assign rfl rfl) ?_
  refine s_end ?_
  refine k_seq ?_
  refine q_region (Ext No w3) (by kernel_rfl) (by kernel_rfl) ((Ext.refl _ _).drew) ?_
  refine q_do rfl rfl rfl (d_move rfl rfl) ?_
  refine q_do rfl rfl rfl (d_move rfl rfl) ?_
  refine q_do rfl rfl rfl (d_eql rfl rfl rfl) ?_
  refine q_do rfl rfl rfl (d_move rfl rfl) ?_
  refine q_part 24 rfl (fun h1 => ?_) (fun h1 => ?_)
  · -- yes: (findN ks key : Int) = (findN ks key : Int)
    refine q_do rfl rfl rfl (d_move rfl rfl) ?_
    refine q_do rfl rfl rfl (d_move rfl rfl) ?_
    refine q_do rfl rfl rfl (d_eqlB rfl (by kernel_rfl) rfl rfl) ?_
    refine q_do rfl rfl rfl (d_pick_t rfl rfl rfl) ?_
    refine q_do rfl rfl rfl (d_move rfl rfl) ?_
    refine q_part 29 rfl (fun h2 => ?_) (fun h2 => ?_)
    · -- yes: (decide (ks[findN ks key]? = some key)) = (decide (ks[findN ks key]? = some key))
      refine q_do rfl rfl rfl (d_loadAgg rfl rfl (vs := [.bool lf, .slice ka ks.length kc, .slice va vs.length vc]) (by kernel_rfl) (fun _ hx => (((B1.ext0 x2).ext0 x3).ext0 hx).part 0 3 _ rfl)) ?_
      refine q_do rfl rfl rfl (d_move rfl rfl) ?_
      refine q_call rfl rfl rfl rfl rfl (fun w => Try.call16 _ w) (v := .int .i64 (max 0 ((leN ks key : Int) - 1))) (fun _ hx => q_ok hx (child_c lf _ _ ks _ _ ((((hk.ext0 x1).ext0 x2).ext0 x3).ext0 hx))) ?_
      refine q_do rfl rfl rfl (d_loadAgg rfl rfl (vs := [.bool lf, .slice ka ks.length kc, .slice va vs.length vc]) (by kernel_rfl) (fun _ hx => (((B1.ext0 x2).ext0 x3).ext0 hx).part 0 3 _ rfl)) ?_
      refine q_do rfl rfl rfl (d_move rfl rfl) ?_
      refine q_call rfl rfl rfl rfl rfl (fun w => Try.call17 _ w) (v := .int .i64 (max 0 ((leN ks key : Int) - 1))) (fun _ hx => q_ok hx (rchild_c lf _ _ ks _ _ ((((hk.ext0 x1).ext0 x2).ext0 x3).ext0 hx))) ?_
      refine q_do rfl rfl rfl (d_eql rfl rfl rfl) ?_
      refine q_do rfl rfl rfl (d_pick_t rfl rfl rfl) ?_
      refine q_do rfl rfl rfl (d_move rfl rfl) ?_
      refine q_part 38 rfl (fun h3 => ?_) (fun h3 => ?_)
      · -- yes: (max 0 ((leN ks key : Int) - 1)) = (max 0 ((leN ks key : Int) - 1))
        refine q_call rfl rfl rfl rfl rfl (fun w => Try.call13 _ w) (v := .bool true) (fun _ hx => q_ok hx (lives_c _)) ?_
        refine q_do rfl rfl rfl (d_pick_t rfl rfl rfl) ?_
        refine q_do rfl rfl rfl (d_assign rfl rfl) ?_
        refine q_end (fun w4 x4 => ?_)
        have m4 := x4.size
        refine k_ret ?_
        refine doneL rfl [.bool true] ⟨rfl, trivial⟩ (v := .bool true) rfl ?_
        have X := (((((Ext.refl No w).trans x1).trans x2).trans x3).trans x4)
        exact ⟨by simp, X⟩
      · exact absurd rfl h3
    · exact absurd rfl h2
  · exact absurd rfl h1

theorem child_law_c (lf : Bool) (kv vv : Value) (ks vs : List Int) (key : Int) (w : World) (hk : RdI kv ks w) (hv : RdI vv vs w) :
    Calls Try.prog 5 #[.agg #[.bool lf, kv, vv], .int .i64 key] w (Ret fun v w' => v = .bool true ∧ Ext No w w') := by
  have hk0 := hk; have hv0 := hv
  obtain ⟨ka, kc, rfl, hkc, hkm, hc⟩ := hk0.opened
  obtain ⟨va, vc, rfl, hvc, hvm, hd⟩ := hv0.opened
  refine enter Try.func5 rfl 84 Try.ntmps5 rfl ?_
  refine k_seq ?_
  refine s_region ?_
  refine s_go rfl rfl rfl (g_box rfl rfl rfl) ?_
  rintro _ w1 ⟨b1, rfl, s1, t1, B1, x1⟩
  refine s_do rfl rfl rfl (d_assign rfl rfl) ?_
  refine s_end ?_
  refine k_seq ?_
  refine s_region ?_
  refine s_do rfl rfl rfl (d_loadAgg rfl rfl (vs := [.bool lf, .slice ka ks.length kc, .slice va vs.length vc]) (by kernel_rfl) (here (B1.part 0 3 _ rfl))) ?_
  refine s_call rfl rfl rfl rfl rfl (fun w => Try.call11 _ w) (may_c lf _ _ ks vs _ (hk.ext0 x1) (hv.ext0 x1)) ?_
  rintro _ w2 ⟨rfl, x2⟩
  have m2 := x2.size
  refine s_do rfl rfl rfl (d_assign rfl rfl) ?_
  refine s_end ?_
  refine k_seq ?_
  refine k_seq ?_
  refine s_region ?_
  refine s_do rfl rfl rfl (d_move rfl rfl) ?_
  refine s_do rfl rfl rfl (d_not rfl rfl) ?_
  refine s_do rfl rfl rfl (d_move rfl rfl) ?_
  refine s_part_b 14 rfl (fun h1 => ?_) (fun h1 => ?_)
  · -- yes: (!okB lf ks vs)
    refine s_skip rfl rfl rfl ?_
    refine s_skip rfl rfl rfl ?_
    refine s_skip rfl rfl rfl ?_
    refine s_skip rfl rfl rfl ?_
    refine s_do rfl rfl rfl (d_pick_t rfl rfl rfl) ?_
    refine s_end ?_
    refine k_true rfl ?_
    refine k_seq ?_
    refine s_region ?_
    refine s_call rfl rfl rfl rfl rfl (fun w => Try.call13 _ w) (lives_c _) ?_
    rintro _ w3 ⟨rfl, x3⟩
    have m3 := x3.size
    refine s_do rfl rfl rfl (d_assign rfl rfl) ?_
    refine s_end ?_
    refine k_ret ?_
    refine doneL rfl [.bool true] ⟨rfl, trivial⟩ (v := .bool true) rfl ?_
    have X := ((((Ext.refl No w).trans x1).trans x2).trans x3)
    exact ⟨by simp, X⟩
  · -- no: (!okB lf ks vs)
    have hok : okB lf ks vs = true := by simpa using h1
    obtain ⟨p1, p2, p3, p4, p5⟩ := okB_ok hok
    have hle := leN_le ks key
    refine s_do rfl rfl rfl (d_field rfl (k := 1) (r := 1) (by kernel_rfl) rfl rfl) ?_
    refine s_do rfl rfl rfl (d_load rfl rfl (by kernel_rfl) (here ((B1.ext0 x2).cel 1 rfl))) ?_
    refine s_do rfl rfl rfl (d_len rfl (z := 1) (by kernel_rfl) rfl) ?_
    refine s_do rfl rfl rfl (d_eql rfl rfl rfl) ?_
    refine s_do rfl rfl rfl (d_pick_f rfl rfl rfl) ?_
    refine s_end ?_
    refine k_dec rfl (fun h2 => ?_) (fun h2 => ?_)
    · -- yes: (ks.length : Int) = 0
      refine k_seq ?_
      refine s_region ?_
      refine s_call rfl rfl rfl rfl rfl (fun w => Try.call13 _ w) (lives_c _) ?_
      rintro _ w4 ⟨rfl, x4⟩
      have m4 := x4.size
      refine s_do rfl rfl rfl (d_assign rfl rfl) ?_
      refine s_end ?_
      refine k_ret ?_
      refine doneL rfl [.bool true] ⟨rfl, trivial⟩ (v := .bool true) rfl ?_
      have X := ((((Ext.refl No w).trans x1).trans x2).trans x4)
      exact ⟨by simp, X⟩
    · -- no: (ks.length : Int) = 0
      refine k_skip ?_
      refine k_seq ?_
      refine s_region ?_
      refine s_do rfl rfl rfl (d_loadAgg rfl rfl (vs := [.bool lf, .slice ka ks.length kc, .slice va vs.length vc]) (by kernel_rfl) (here ((B1.ext0 x2).part 0 3 _ rfl))) ?_
      refine s_do rfl rfl rfl (d_move rfl rfl) ?_
      refine s_call rfl rfl rfl rfl rfl (fun w => Try.call16 _ w) (child_c lf _ _ ks _ _ ((hk.ext0 x1).ext0 x2)) ?_
      rintro _ w5 ⟨rfl, x5⟩
      have m5 := x5.size
      refine s_do rfl rfl rfl (d_assign rfl rfl) ?_
      refine s_end ?_
      refine k_seq ?_
      refine k_seq ?_
      refine s_region ?_
      refine s_do rfl rfl rfl (d_move rfl rfl) ?_
      refine s_do rfl rfl rfl (d_lss rfl rfl rfl) ?_
      refine s_do rfl rfl rfl (d_move rfl rfl) ?_
      refine s_part 26 rfl (fun h3 => ?_) (fun h3 => ?_)
      · exfalso; omega
      · -- no: (max 0 ((leN ks key : Int) - 1)) < 0
        refine s_do rfl rfl rfl (d_move rfl rfl) ?_
        refine s_do rfl rfl rfl (d_field rfl (k := 1) (r := 1) (by kernel_rfl) rfl rfl) ?_
        refine s_do rfl rfl rfl (d_load rfl rfl (by kernel_rfl) (here (((B1.ext0 x2).ext0 x5).cel 1 rfl))) ?_
        refine s_do rfl rfl rfl (d_len rfl (z := 1) (by kernel_rfl) rfl) ?_
        refine s_do rfl rfl rfl (d_geq rfl rfl rfl) ?_
        refine s_do rfl rfl rfl (d_pick_f rfl rfl rfl) ?_
        refine s_end ?_
        refine k_dec rfl (fun h4 => ?_) (fun h4 => ?_)
        · exfalso; omega
        · -- no: (ks.length : Int) ≤ (max 0 ((leN ks key : Int) - 1))
          refine k_skip ?_
          refine k_seq ?_
          refine k_seq ?_
          refine s_region ?_
          refine s_do rfl rfl rfl (d_assign rfl rfl) ?_
          refine s_end ?_
          refine k_block ?_
          refine c_loop (σ := Nat) (fun k => [(7, .int .i64 (k : Int)), (1, .int .i64 key), (2, .pointer (some ⟨b1, 0, none⟩)), (6, .int .i64 (max 0 ((leN ks key : Int) - 1)))])
            (fun k wr => Ext No w5 wr ∧ (k ≤ ks.length)) (fun k => ks.length - k) 0
            (fun _ hF => (hF.cons (hF.cons (hF.cons (hF.cons hF.nil 6 _ _ rfl rfl) 2 _ _ rfl rfl) 1 _ _ rfl rfl) 7 _ _ rfl (by go_num))) ⟨Ext.refl _ _, by omega⟩ ?_
          rintro k wr6 ⟨x6, hI⟩
          have m6 := x6.size
          have hkl := hI
          refine k_seq ?_
          refine k_seq ?_
          refine s_region ?_
          refine s_do rfl rfl rfl (d_move rfl rfl) ?_
          refine s_do rfl rfl rfl (d_field rfl (k := 1) (r := 1) (by kernel_rfl) rfl rfl) ?_
          refine s_do rfl rfl rfl (d_load rfl rfl (by kernel_rfl) (here ((((B1.ext0 x2).ext0 x5).ext0 x6).cel 1 rfl))) ?_
          refine s_do rfl rfl rfl (d_len rfl (z := 1) (by kernel_rfl) rfl) ?_
          refine s_do rfl rfl rfl (d_lss rfl rfl rfl) ?_
          refine s_end ?_
          refine k_dec rfl (fun h5 => ?_) (fun h5 => ?_)
          · -- yes: (k : Int) < (ks.length : Int)
            refine k_skip ?_
            refine k_seq ?_
            refine k_block ?_
            refine k_seq ?_
            refine k_seq ?_
            refine s_region ?_
            refine s_do rfl rfl rfl (d_move rfl rfl) ?_
            refine s_do rfl rfl rfl (d_move rfl rfl) ?_
            refine s_do rfl rfl rfl (d_leq rfl rfl rfl) ?_
            refine s_do rfl rfl rfl (d_move rfl rfl) ?_
            refine s_part 43 rfl (fun h6 => ?_) (fun h6 => ?_)
            · -- yes: (k : Int) ≤ (max 0 ((leN ks key : Int) - 1))
              have hlen := h6
              refine s_do rfl rfl rfl (d_move rfl rfl) ?_
              refine s_do rfl rfl rfl (d_gtr rfl rfl rfl) ?_
              refine s_do rfl rfl rfl (d_pick_t rfl rfl rfl) ?_
              refine s_do rfl rfl rfl (d_move rfl rfl) ?_
              refine s_part 47 rfl (fun h7 => ?_) (fun h7 => ?_)
              · -- yes: (0 : Int) < (k : Int)
                refine s_do rfl rfl rfl (d_field rfl (k := 1) (r := 1) (by kernel_rfl) rfl rfl) ?_
                refine s_do rfl rfl rfl (d_load rfl rfl (by kernel_rfl) (here ((((B1.ext0 x2).ext0 x5).ext0 x6).cel 1 rfl))) ?_
                refine s_do rfl rfl rfl (d_move rfl rfl) ?_
                obtain ⟨x, hx⟩ : ∃ x, ks[k]? = some x := ⟨_, List.getElem?_eq_getElem (by omega)⟩
                have hat := hc _ _ hx
                refine s_do rfl rfl rfl (d_indexE rfl (z := 1) (j := k) (r := k) (by kernel_rfl) rfl rfl rfl (by omega) hat (by omega)) ?_
                refine s_do rfl rfl rfl (d_loadE rfl rfl (by kernel_rfl) (here (((((hat.ext0 x1).ext0 x2).ext0 x5).ext0 x6)))) ?_
                refine s_do rfl rfl rfl (d_move rfl rfl) ?_
                refine s_do rfl rfl rfl (d_gtr rfl rfl rfl) ?_
                refine s_do rfl rfl rfl (d_pick_t rfl rfl rfl) ?_
                refine s_end ?_
                refine k_dec rfl (fun h8 => ?_) (fun h8 => ?_)
                · exfalso; have := leN_lt ks key k x (by omega) hx; omega
                · -- no: (key : Int) < x
                  refine k_skip ?_
                  refine k_seq ?_
                  refine s_region ?_
                  refine s_do rfl rfl rfl (d_move rfl rfl) ?_
                  refine s_do rfl rfl rfl (d_move rfl rfl) ?_
                  refine s_do rfl rfl rfl (d_gtr rfl rfl rfl) ?_
                  refine s_do rfl rfl rfl (d_move rfl rfl) ?_
                  refine s_part 59 rfl (fun h9 => ?_) (fun h9 => ?_)
                  · -- yes: (max 0 ((leN ks key : Int) - 1)) < (k : Int)
                    refine s_do rfl rfl rfl (d_field rfl (k := 1) (r := 1) (by kernel_rfl) rfl rfl) ?_
                    refine s_do rfl rfl rfl (d_load rfl rfl (by kernel_rfl) (here ((((B1.ext0 x2).ext0 x5).ext0 x6).cel 1 rfl))) ?_
                    refine s_do rfl rfl rfl (d_move rfl rfl) ?_
                    obtain ⟨x, hx⟩ : ∃ x, ks[k]? = some x := ⟨_, List.getElem?_eq_getElem (by omega)⟩
                    have hat := hc _ _ hx
                    refine s_do rfl rfl rfl (d_indexE rfl (z := 1) (j := k) (r := k) (by kernel_rfl) rfl rfl rfl (by omega) hat (by omega)) ?_
                    refine s_do rfl rfl rfl (d_loadE rfl rfl (by kernel_rfl) (here (((((hat.ext0 x1).ext0 x2).ext0 x5).ext0 x6)))) ?_
                    refine s_do rfl rfl rfl (d_move rfl rfl) ?_
                    refine s_do rfl rfl rfl (d_leq rfl rfl rfl) ?_
                    refine s_do rfl rfl rfl (d_pick_t rfl rfl rfl) ?_
                    refine s_end ?_
                    refine k_dec rfl (fun h10 => ?_) (fun h10 => ?_)
                    · exfalso; have := leN_ge ks key p5 k x (by omega) hx; omega
                    · -- no: (x : Int) ≤ key
                      refine k_skip ?_
                      refine s_region ?_
                      refine s_do rfl rfl rfl (d_move rfl rfl) ?_
                      refine s_do rfl rfl rfl (d_add64 rfl rfl rfl (r := (k : Int) + 1) (by omega) (by omega)) ?_
                      refine s_do rfl rfl rfl (d_assign rfl rfl) ?_
                      refine s_end ?_
                      intro _ hF
                      refine ⟨(k + 1), (hF.cons (hF.cons (hF.cons (hF.cons hF.nil 6 _ _ rfl rfl) 2 _ _ rfl rfl) 1 _ _ rfl rfl) 7 _ _ rfl (by go_num)), ⟨x6, ?_⟩, ?_⟩
                      · exact by omega
                      · omega
                  · -- no: (max 0 ((leN ks key : Int) - 1)) < (k : Int)
                    refine s_skip rfl rfl rfl ?_
                    refine s_skip rfl rfl rfl ?_
                    refine s_skip rfl rfl rfl ?_
                    refine s_skip rfl rfl rfl ?_
                    refine s_skip rfl rfl rfl ?_
                    refine s_skip rfl rfl rfl ?_
                    refine s_skip rfl rfl rfl ?_
                    refine s_do rfl rfl rfl (d_pick_f rfl rfl rfl) ?_
                    refine s_end ?_
                    refine k_false rfl ?_
                    refine k_skip ?_
                    refine s_region ?_
                    refine s_do rfl rfl rfl (d_move rfl rfl) ?_
                    refine s_do rfl rfl rfl (d_add64 rfl rfl rfl (r := (k : Int) + 1) (by omega) (by omega)) ?_
                    refine s_do rfl rfl rfl (d_assign rfl rfl) ?_
                    refine s_end ?_
                    intro _ hF
                    refine ⟨(k + 1), (hF.cons (hF.cons (hF.cons (hF.cons hF.nil 6 _ _ rfl rfl) 2 _ _ rfl rfl) 1 _ _ rfl rfl) 7 _ _ rfl (by go_num)), ⟨x6, ?_⟩, ?_⟩
                    · exact by omega
                    · omega
              · -- no: (0 : Int) < (k : Int)
                refine s_skip rfl rfl rfl ?_
                refine s_skip rfl rfl rfl ?_
                refine s_skip rfl rfl rfl ?_
                refine s_skip rfl rfl rfl ?_
                refine s_skip rfl rfl rfl ?_
                refine s_skip rfl rfl rfl ?_
                refine s_skip rfl rfl rfl ?_
                refine s_do rfl rfl rfl (d_pick_f rfl rfl rfl) ?_
                refine s_end ?_
                refine k_false rfl ?_
                refine k_skip ?_
                refine k_seq ?_
                refine s_region ?_
                refine s_do rfl rfl rfl (d_move rfl rfl) ?_
                refine s_do rfl rfl rfl (d_move rfl rfl) ?_
                refine s_do rfl rfl rfl (d_gtr rfl rfl rfl) ?_
                refine s_do rfl rfl rfl (d_move rfl rfl) ?_
                refine s_part 59 rfl (fun h11 => ?_) (fun h11 => ?_)
                · -- yes: (max 0 ((leN ks key : Int) - 1)) < (k : Int)
                  refine s_do rfl rfl rfl (d_field rfl (k := 1) (r := 1) (by kernel_rfl) rfl rfl) ?_
                  refine s_do rfl rfl rfl (d_load rfl rfl (by kernel_rfl) (here ((((B1.ext0 x2).ext0 x5).ext0 x6).cel 1 rfl))) ?_
                  refine s_do rfl rfl rfl (d_move rfl rfl) ?_
                  obtain ⟨x, hx⟩ : ∃ x, ks[k]? = some x := ⟨_, List.getElem?_eq_getElem (by omega)⟩
                  have hat := hc _ _ hx
                  refine s_do rfl rfl rfl (d_indexE rfl (z := 1) (j := k) (r := k) (by kernel_rfl) rfl rfl rfl (by omega) hat (by omega)) ?_
                  refine s_do rfl rfl rfl (d_loadE rfl rfl (by kernel_rfl) (here (((((hat.ext0 x1).ext0 x2).ext0 x5).ext0 x6)))) ?_
                  refine s_do rfl rfl rfl (d_move rfl rfl) ?_
                  refine s_do rfl rfl rfl (d_leq rfl rfl rfl) ?_
                  refine s_do rfl rfl rfl (d_pick_t rfl rfl rfl) ?_
                  refine s_end ?_
                  refine k_dec rfl (fun h12 => ?_) (fun h12 => ?_)
                  · exfalso; have := leN_ge ks key p5 k x (by omega) hx; omega
                  · -- no: (x : Int) ≤ key
                    refine k_skip ?_
                    refine s_region ?_
                    refine s_do rfl rfl rfl (d_move rfl rfl) ?_
                    refine s_do rfl rfl rfl (d_add64 rfl rfl rfl (r := (k : Int) + 1) (by omega) (by omega)) ?_
                    refine s_do rfl rfl rfl (d_assign rfl rfl) ?_
                    refine s_end ?_
                    intro _ hF
                    refine ⟨(k + 1), (hF.cons (hF.cons (hF.cons (hF.cons hF.nil 6 _ _ rfl rfl) 2 _ _ rfl rfl) 1 _ _ rfl rfl) 7 _ _ rfl (by go_num)), ⟨x6, ?_⟩, ?_⟩
                    · exact by omega
                    · omega
                · -- no: (max 0 ((leN ks key : Int) - 1)) < (k : Int)
                  refine s_skip rfl rfl rfl ?_
                  refine s_skip rfl rfl rfl ?_
                  refine s_skip rfl rfl rfl ?_
                  refine s_skip rfl rfl rfl ?_
                  refine s_skip rfl rfl rfl ?_
                  refine s_skip rfl rfl rfl ?_
                  refine s_skip rfl rfl rfl ?_
                  refine s_do rfl rfl rfl (d_pick_f rfl rfl rfl) ?_
                  refine s_end ?_
                  refine k_false rfl ?_
                  refine k_skip ?_
                  refine s_region ?_
                  refine s_do rfl rfl rfl (d_move rfl rfl) ?_
                  refine s_do rfl rfl rfl (d_add64 rfl rfl rfl (r := (k : Int) + 1) (by omega) (by omega)) ?_
                  refine s_do rfl rfl rfl (d_assign rfl rfl) ?_
                  refine s_end ?_
                  intro _ hF
                  refine ⟨(k + 1), (hF.cons (hF.cons (hF.cons (hF.cons hF.nil 6 _ _ rfl rfl) 2 _ _ rfl rfl) 1 _ _ rfl rfl) 7 _ _ rfl (by go_num)), ⟨x6, ?_⟩, ?_⟩
                  · exact by omega
                  · omega
            · -- no: (k : Int) ≤ (max 0 ((leN ks key : Int) - 1))
              refine s_skip rfl rfl rfl ?_
              refine s_skip rfl rfl rfl ?_
              refine s_do rfl rfl rfl (d_pick_f rfl rfl rfl) ?_
              refine s_do rfl rfl rfl (d_move rfl rfl) ?_
              refine s_skip rfl rfl rfl ?_
              refine s_skip rfl rfl rfl ?_
              refine s_skip rfl rfl rfl ?_
              refine s_skip rfl rfl rfl ?_
              refine s_skip rfl rfl rfl ?_
              refine s_skip rfl rfl rfl ?_
              refine s_skip rfl rfl rfl ?_
              refine s_do rfl rfl rfl (d_pick_f rfl rfl rfl) ?_
              refine s_end ?_
              refine k_false rfl ?_
              refine k_skip ?_
              refine k_seq ?_
              refine s_region ?_
              refine s_do rfl rfl rfl (d_move rfl rfl) ?_
              refine s_do rfl rfl rfl (d_move rfl rfl) ?_
              refine s_do rfl rfl rfl (d_gtr rfl rfl rfl) ?_
              refine s_do rfl rfl rfl (d_move rfl rfl) ?_
              refine s_part 59 rfl (fun h13 => ?_) (fun h13 => ?_)
              · -- yes: (max 0 ((leN ks key : Int) - 1)) < (k : Int)
                refine s_do rfl rfl rfl (d_field rfl (k := 1) (r := 1) (by kernel_rfl) rfl rfl) ?_
                refine s_do rfl rfl rfl (d_load rfl rfl (by kernel_rfl) (here ((((B1.ext0 x2).ext0 x5).ext0 x6).cel 1 rfl))) ?_
                refine s_do rfl rfl rfl (d_move rfl rfl) ?_
                obtain ⟨x, hx⟩ : ∃ x, ks[k]? = some x := ⟨_, List.getElem?_eq_getElem (by omega)⟩
                have hat := hc _ _ hx
                refine s_do rfl rfl rfl (d_indexE rfl (z := 1) (j := k) (r := k) (by kernel_rfl) rfl rfl rfl (by omega) hat (by omega)) ?_
                refine s_do rfl rfl rfl (d_loadE rfl rfl (by kernel_rfl) (here (((((hat.ext0 x1).ext0 x2).ext0 x5).ext0 x6)))) ?_
                refine s_do rfl rfl rfl (d_move rfl rfl) ?_
                refine s_do rfl rfl rfl (d_leq rfl rfl rfl) ?_
                refine s_do rfl rfl rfl (d_pick_t rfl rfl rfl) ?_
                refine s_end ?_
                refine k_dec rfl (fun h14 => ?_) (fun h14 => ?_)
                · exfalso; have := leN_ge ks key p5 k x (by omega) hx; omega
                · -- no: (x : Int) ≤ key
                  refine k_skip ?_
                  refine s_region ?_
                  refine s_do rfl rfl rfl (d_move rfl rfl) ?_
                  refine s_do rfl rfl rfl (d_add64 rfl rfl rfl (r := (k : Int) + 1) (by omega) (by omega)) ?_
                  refine s_do rfl rfl rfl (d_assign rfl rfl) ?_
                  refine s_end ?_
                  intro _ hF
                  refine ⟨(k + 1), (hF.cons (hF.cons (hF.cons (hF.cons hF.nil 6 _ _ rfl rfl) 2 _ _ rfl rfl) 1 _ _ rfl rfl) 7 _ _ rfl (by go_num)), ⟨x6, ?_⟩, ?_⟩
                  · exact by omega
                  · omega
              · -- no: (max 0 ((leN ks key : Int) - 1)) < (k : Int)
                refine s_skip rfl rfl rfl ?_
                refine s_skip rfl rfl rfl ?_
                refine s_skip rfl rfl rfl ?_
                refine s_skip rfl rfl rfl ?_
                refine s_skip rfl rfl rfl ?_
                refine s_skip rfl rfl rfl ?_
                refine s_skip rfl rfl rfl ?_
                refine s_do rfl rfl rfl (d_pick_f rfl rfl rfl) ?_
                refine s_end ?_
                refine k_false rfl ?_
                refine k_skip ?_
                refine s_region ?_
                refine s_do rfl rfl rfl (d_move rfl rfl) ?_
                refine s_do rfl rfl rfl (d_add64 rfl rfl rfl (r := (k : Int) + 1) (by omega) (by omega)) ?_
                refine s_do rfl rfl rfl (d_assign rfl rfl) ?_
                refine s_end ?_
                intro _ hF
                refine ⟨(k + 1), (hF.cons (hF.cons (hF.cons (hF.cons hF.nil 6 _ _ rfl rfl) 2 _ _ rfl rfl) 1 _ _ rfl rfl) 7 _ _ rfl (by go_num)), ⟨x6, ?_⟩, ?_⟩
                · exact by omega
                · omega
          · -- no: (k : Int) < (ks.length : Int)
            refine k_exit ?_
            refine k_here ?_
            refine k_seq ?_
            refine s_region ?_
            refine s_do rfl rfl rfl (d_loadAgg rfl rfl (vs := [.bool lf, .slice ka ks.length kc, .slice va vs.length vc]) (by kernel_rfl) (here ((((B1.ext0 x2).ext0 x5).ext0 x6).part 0 3 _ rfl))) ?_
            refine s_do rfl rfl rfl (d_move rfl rfl) ?_
            refine s_call rfl rfl rfl rfl rfl (fun w => Try.call14 _ w) (find_c lf _ _ ks _ _ ((((hk.ext0 x1).ext0 x2).ext0 x5).ext0 x6)) ?_
            rintro _ w7 ⟨rfl, x7⟩
            have m7 := x7.size
            refine s_do rfl rfl rfl (d_move rfl rfl) ?_
            refine s_do rfl rfl rfl (d_extract rfl rfl rfl) ?_
            refine s_do rfl rfl rfl (d_extract rfl rfl rfl) ?_
            refine s_do rfl rfl rfl (d_assign rfl rfl) ?_
            refine s_do rfl rfl rfl (d_assign rfl rfl) ?_
            refine s_end ?_
            refine k_seq ?_
            refine s_region ?_
            refine s_do rfl rfl rfl (d_move rfl rfl) ?_
            refine s_do rfl rfl rfl (d_not_dec rfl rfl) ?_
            refine s_do rfl rfl rfl (d_move rfl rfl) ?_
            refine s_part 76 rfl (fun h15 => ?_) (fun h15 => ?_)
            · -- yes: ¬ (ks[findN ks key]? = some key)
              refine s_skip rfl rfl rfl ?_
              refine s_skip rfl rfl rfl ?_
              refine s_skip rfl rfl rfl ?_
              refine s_do rfl rfl rfl (d_pick_t rfl rfl rfl) ?_
              refine s_do rfl rfl rfl (d_move rfl rfl) ?_
              refine s_call rfl rfl rfl rfl rfl (fun w => Try.call13 _ w) (lives_c _) ?_
              rintro _ w8 ⟨rfl, x8⟩
              have m8 := x8.size
              refine s_do rfl rfl rfl (d_pick_t rfl rfl rfl) ?_
              refine s_do rfl rfl rfl (d_assign rfl rfl) ?_
              refine s_end ?_
              refine k_ret ?_
              refine doneL rfl [.bool true] ⟨rfl, trivial⟩ (v := .bool true) rfl ?_
              have X := (((((((Ext.refl No w).trans x1).trans x2).trans x5).trans x6).trans x7).trans x8)
              exact ⟨by simp, X⟩
            · -- no: ¬ (ks[findN ks key]? = some key)
              have hfd := h15
              refine s_do rfl rfl rfl (d_move rfl rfl) ?_
              refine s_do rfl rfl rfl (d_move rfl rfl) ?_
              refine s_do rfl rfl rfl (d_eql rfl rfl rfl) ?_
              refine s_do rfl rfl rfl (d_pick_f rfl rfl rfl) ?_
              refine s_do rfl rfl rfl (d_move rfl rfl) ?_
              refine s_part 81 rfl (fun h16 => ?_) (fun h16 => ?_)
              · -- yes: (findN ks key : Int) = (max 0 ((leN ks key : Int) - 1))
                refine s_call rfl rfl rfl rfl rfl (fun w => Try.call13 _ w) (lives_c _) ?_
                rintro _ w9 ⟨rfl, x9⟩
                have m9 := x9.size
                refine s_do rfl rfl rfl (d_pick_t rfl rfl rfl) ?_
                refine s_do rfl rfl rfl (d_assign rfl rfl) ?_
                refine s_end ?_
                refine k_ret ?_
                refine doneL rfl [.bool true] ⟨rfl, trivial⟩ (v := .bool true) rfl ?_
                have X := (((((((Ext.refl No w).trans x1).trans x2).trans x5).trans x6).trans x7).trans x9)
                exact ⟨by simp, X⟩
              · exfalso; have := leN_findN ks key p5 (by simpa using hfd); omega
end Go.Proofs.Yteehoppklgcggaa
