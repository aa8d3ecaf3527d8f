/-
  Walks: the law LogRoom. No condition.
-/
import Derived.Test.YtanejicgmgpjcaaDoorLogZC
set_option maxRecDepth 100000
namespace Go.Proofs.YtanejicgmgpjcaaDoor
open Go.RowKit
set_option maxHeartbeats 4000000 in
theorem logRoom_c (hd : Int) (v : Value) (ns : List Int) (hns : ns.length ≤ 1000000000) (A : Asn) (hA : ∀ h, A h → rdH 1 v ns.length (ns.map (Value.int .i64)) h) : Cn Tryd.prog 4 [v, .int .i64 hd] [A] (fun v Γ => v = .bool true ∧ Γ = [A]) := by
  intro z R w H'
  have H : Sep z (A :: R) w := H'
  clear H'
  obtain ⟨ao, oc, rfl⟩ := H.says 0 rfl (fun h q => (hA h q).slc)
  refine enter Tryd.func4 rfl 129 Tryd.ntmps4 rfl ?_
  refine k_seq ?_
  refine s_region ?_
  refine s_do rfl rfl rfl (d_assign rfl rfl) ?_
  refine s_end ?_
  refine k_seq ?_
  refine s_region ?_
  refine s_callC rfl rfl rfl rfl rfl (fun w => Tryd.call5 _ w) (crcnew_c ) H 0 [] rfl rfl ?_
  rintro _ w _ ⟨pt, rfl, rfl⟩ H'
  have H : Sep z (tblA pt :: A :: R) w := H'
  clear H'
  refine s_do rfl rfl rfl (d_assign rfl rfl) ?_
  refine s_end ?_
  refine k_seq ?_
  refine s_region ?_
  refine s_callC rfl rfl rfl rfl rfl (fun w => Tryd.call6 _ w) (dnew_c 100) H 0 [] rfl rfl ?_
  rintro _ w _ (⟨hn, rfl, rfl⟩ | ⟨_, pd, rfl, rfl⟩) H'
  · exact absurd (by omega) hn
  · -- a case
    have H : Sep z (diskA pd (newD 100) :: tblA pt :: A :: R) w := H'
    clear H'
    refine s_do rfl rfl rfl (d_move rfl rfl) ?_
    refine s_do rfl rfl rfl (d_extract rfl rfl rfl) ?_
    refine s_do rfl rfl rfl (d_extract rfl rfl rfl) ?_
    refine s_do rfl rfl rfl (d_assign rfl rfl) ?_
    refine s_do rfl rfl rfl (d_assign rfl rfl) ?_
    refine s_end ?_
    refine k_seq ?_
    refine k_seq ?_
    refine s_region ?_
    refine s_do rfl rfl rfl (d_move rfl rfl) ?_
    refine s_do rfl rfl rfl (d_neq rfl rfl rfl) ?_
    refine k_updA 26 (u := .bool (decide ((0 : Int) ≠ 0))) (v := .bool false) rfl (congrArg Value.bool (by decide)) ?_
    refine s_do rfl rfl rfl (d_move rfl rfl) ?_
    refine s_do rfl rfl rfl (d_move rfl rfl) ?_
    refine s_do rfl rfl rfl (d_eql_pn rfl (by kernel_rfl) rfl rfl) ?_
    refine s_do rfl rfl rfl (d_pick_f rfl rfl rfl) ?_
    refine s_do rfl rfl rfl (d_move rfl rfl) ?_
    refine s_do rfl rfl rfl (d_move rfl rfl) ?_
    refine s_callC rfl rfl rfl rfl rfl (fun w => Tryd.call7 _ w) (known_c _) H 2 [1, 0] rfl rfl ?_
    rintro _ w _ ⟨rfl, rfl⟩ H'
    have H : Sep z (tblA pt :: diskA pd (newD 100) :: A :: R) w := H'
    clear H'
    refine s_do rfl rfl rfl (d_not rfl rfl) ?_
    refine s_do rfl rfl rfl (d_pick_f rfl rfl rfl) ?_
    refine s_end ?_
    refine k_false rfl ?_
    refine k_skip ?_
    refine k_seq ?_
    refine s_region ?_
    refine s_do rfl rfl rfl (d_move rfl rfl) ?_
    refine s_do rfl rfl rfl (d_rem rfl rfl rfl (by decide)) ?_
    refine s_do rfl rfl rfl (d_assign rfl rfl) ?_
    refine s_end ?_
    refine k_cut (fun a w => ∃ (hh : Int), Fr 129 [] [(8, .int .i64 hh), (0, .slice ao ns.length oc), (1, .int .i64 hd), (4, .bool false), (5, .pointer (some ⟨pt, 0, none⟩)), (6, .pointer (some ⟨pd, 0, none⟩)), (7, .int .i64 0), (20, .pointer (some ⟨pt, 0, none⟩)), (21, .tuple #[.pointer (some ⟨pd, 0, none⟩), .int .i64 0]), (22, .tuple #[.pointer (some ⟨pd, 0, none⟩), .int .i64 0]), (23, .pointer (some ⟨pd, 0, none⟩)), (24, .int .i64 0), (25, .int .i64 0), (26, .bool false), (27, .bool false), (28, .pointer (some ⟨pd, 0, none⟩)), (29, .bool false), (30, .bool false), (31, .bool false), (32, .pointer (some ⟨pt, 0, none⟩)), (33, .bool true), (34, .bool false), (35, .bool false), (36, .int .i64 hd), (37, .int .i64 (hd.tmod 64))] a ∧ Sep z (tblA pt :: diskA pd (newD 100) :: A :: R) w ∧ (0 ≤ hh ∧ hh < 64)) ?_ ?_
    · -- 6
      refine k_seq ?_
      have hm1 := Int.tmod_lt_of_pos hd (by decide : (0 : Int) < 64)
      have hm2 := Int.lt_tmod_of_pos hd (by decide : (0 : Int) < 64)
      refine s_region ?_
      refine s_do rfl rfl rfl (d_move rfl rfl) ?_
      refine s_do rfl rfl rfl (d_lss rfl rfl rfl) ?_
      refine s_end ?_
      refine k_dec rfl (fun h1 => ?_) (fun h1 => ?_)
      · -- yes: (hd.tmod 64 : Int) < 0
        refine s_region ?_
        refine s_do rfl rfl rfl (d_move rfl rfl) ?_
        refine s_do rfl rfl rfl (d_add64 rfl rfl rfl (r := (hd.tmod 64) + 64) (by omega) (by omega)) ?_
        refine s_do rfl rfl rfl (d_assign rfl rfl) ?_
        refine s_end ?_
        exact fun _ hF => ⟨((hd.tmod 64) + 64), (hF.cons (hF.cons (hF.cons (hF.cons (hF.cons (hF.cons (hF.cons (hF.cons (hF.cons (hF.cons (hF.cons (hF.cons (hF.cons (hF.cons (hF.cons (hF.cons (hF.cons (hF.cons (hF.cons (hF.cons (hF.cons (hF.cons (hF.cons (hF.cons (hF.cons hF.nil 37 _ _ rfl rfl) 36 _ _ rfl rfl) 35 _ _ rfl rfl) 34 _ _ rfl rfl) 33 _ _ rfl rfl) 32 _ _ rfl rfl) 31 _ _ rfl rfl) 30 _ _ rfl rfl) 29 _ _ rfl rfl) 28 _ _ rfl rfl) 27 _ _ rfl rfl) 26 _ _ rfl rfl) 25 _ _ rfl rfl) 24 _ _ rfl rfl) 23 _ _ rfl rfl) 22 _ _ rfl rfl) 21 _ _ rfl rfl) 20 _ _ rfl rfl) 7 _ _ rfl rfl) 6 _ _ rfl rfl) 5 _ _ rfl rfl) 4 _ _ rfl rfl) 1 _ _ rfl rfl) 0 _ _ rfl rfl) 8 _ _ rfl rfl), H, (by omega)⟩
      · -- no: (hd.tmod 64 : Int) < 0
        refine k_skip ?_
        exact fun _ hF => ⟨(hd.tmod 64), (hF.cons (hF.cons (hF.cons (hF.cons (hF.cons (hF.cons (hF.cons (hF.cons (hF.cons (hF.cons (hF.cons (hF.cons (hF.cons (hF.cons (hF.cons (hF.cons (hF.cons (hF.cons (hF.cons (hF.cons (hF.cons (hF.cons (hF.cons (hF.cons (hF.cons hF.nil 37 _ _ rfl rfl) 36 _ _ rfl rfl) 35 _ _ rfl rfl) 34 _ _ rfl rfl) 33 _ _ rfl rfl) 32 _ _ rfl rfl) 31 _ _ rfl rfl) 30 _ _ rfl rfl) 29 _ _ rfl rfl) 28 _ _ rfl rfl) 27 _ _ rfl rfl) 26 _ _ rfl rfl) 25 _ _ rfl rfl) 24 _ _ rfl rfl) 23 _ _ rfl rfl) 22 _ _ rfl rfl) 21 _ _ rfl rfl) 20 _ _ rfl rfl) 7 _ _ rfl rfl) 6 _ _ rfl rfl) 5 _ _ rfl rfl) 4 _ _ rfl rfl) 1 _ _ rfl rfl) 0 _ _ rfl rfl) 8 _ _ rfl rfl), H, (by omega)⟩
    rintro a w ⟨hh, hF, H, hI⟩
    revert a
    refine k_seq ?_
    have hsR := sR_f hh
    have hok : (sR hh).Ok (100 : Int) := Sup.ok_of (by omega) rfl rfl rfl rfl (by omega) (by omega) rfl
    refine s_region ?_
    refine s_do rfl rfl rfl (d_move rfl rfl) ?_
    refine s_do rfl rfl rfl (d_move rfl rfl) ?_
    refine s_do rfl rfl rfl (d_move rfl rfl) ?_
    refine s_do rfl rfl rfl (d_build rfl rfl (out := [.int .i64 0, .int .i64 1, .int .i64 16, .int .i64 18, .int .i64 64, .int .i64 hh, .int .i64 0]) (by kernel_rfl)) ?_
    refine s_callC rfl rfl rfl rfl rfl (fun w => Tryd.call8 _ w) (lnewD_c _ _ _ (sR hh) hok) H 2 [1, 0] rfl rfl ?_
    rintro _ w _ ⟨pl, rfl, rfl⟩ H'
    have H : Sep z (blk pl [.pointer (some ⟨pd, 0, none⟩), .pointer (some ⟨pt, 0, none⟩), .int .i64 ((sR hh).gen), .int .i64 ((sR hh).epoch), .int .i64 ((sR hh).pages), .int .i64 ((sR hh).start), .int .i64 ((sR hh).len), .int .i64 ((sR hh).head), .int .i64 ((sR hh).seq), .int .i64 ((sR hh).head), .int .i64 ((sR hh).seq), .int .i64 0, .bool false, .bool (decide ((sR hh).epoch < 4294967296))] 73 :: diskA pd (newD 100) :: tblA pt :: A :: R) w := H'
    clear H'
    refine s_do rfl rfl rfl (d_assign rfl rfl) ?_
    refine s_end ?_
    refine k_seq ?_
    refine k_seq ?_
    refine s_region ?_
    refine s_do rfl rfl rfl (d_move rfl rfl) ?_
    refine s_do rfl rfl rfl (d_eql_pn rfl (by kernel_rfl) rfl rfl) ?_
    refine s_end ?_
    refine k_false rfl ?_
    refine k_skip ?_
    refine k_seq ?_
    refine s_region ?_
    refine s_do rfl rfl rfl (d_assign rfl rfl) ?_
    refine s_end ?_
    refine k_seq ?_
    refine s_region ?_
    refine s_do rfl rfl rfl (d_assign rfl rfl) ?_
    refine s_end ?_
    refine k_seq ?_
    refine k_seq ?_
    refine s_region ?_
    refine s_do rfl rfl rfl (d_assign rfl rfl) ?_
    refine s_end ?_
    refine k_block ?_
    refine c_loop (σ := Nat × Dsk × Int × Int × Int) (fun ⟨i, D, aa, q, u⟩ => [(12, .int .i64 (i : Int)), (10, .int .i64 (64 - u)), (11, .int .i64 q), (8, .int .i64 aa), (0, .slice ao ns.length oc), (9, .pointer (some ⟨pl, 0, none⟩))])
      (fun ⟨i, D, aa, q, u⟩ w => Sep z (blk pl [.pointer (some ⟨pd, 0, none⟩), .pointer (some ⟨pt, 0, none⟩), .int .i64 ((sR hh).gen), .int .i64 ((sR hh).epoch), .int .i64 ((sR hh).pages), .int .i64 ((sR hh).start), .int .i64 ((sR hh).len), .int .i64 ((sR hh).head), .int .i64 ((sR hh).seq), .int .i64 aa, .int .i64 q, .int .i64 u, .bool false, .bool (decide ((sR hh).epoch < 4294967296))] 73 :: diskA pd D :: tblA pt :: A :: R) w ∧ (i ≤ ns.length ∧ Cln D (2 * i) ∧ D.n = 100 ∧ (0 ≤ aa ∧ aa < 64) ∧ (0 ≤ q ∧ q ≤ i) ∧ (0 ≤ u ∧ u ≤ 64))) (fun ⟨i, D, aa, q, u⟩ => ns.length - i) ⟨0, newD 100, (sR hh).head, (sR hh).seq, 0⟩
      (fun _ hF => (hF.cons (hF.cons (hF.cons (hF.cons (hF.cons (hF.cons hF.nil 9 _ _ rfl rfl) 0 _ _ rfl rfl) 8 _ _ rfl rfl) 11 _ _ rfl rfl) 10 _ _ rfl rfl) 12 _ _ rfl (by go_num))) ⟨H, by omega, newD_cln 100, rfl, by omega, by omega, by decide⟩ ?_
    clear H; rintro ⟨i, D, aa, q, u⟩ w ⟨H', hI⟩
    dsimp only at hI H' ⊢
    have H : Sep z (blk pl [.pointer (some ⟨pd, 0, none⟩), .pointer (some ⟨pt, 0, none⟩), .int .i64 ((sR hh).gen), .int .i64 ((sR hh).epoch), .int .i64 ((sR hh).pages), .int .i64 ((sR hh).start), .int .i64 ((sR hh).len), .int .i64 ((sR hh).head), .int .i64 ((sR hh).seq), .int .i64 aa, .int .i64 q, .int .i64 u, .bool false, .bool (decide ((sR hh).epoch < 4294967296))] 73 :: diskA pd D :: tblA pt :: A :: R) w := H'
    clear H'
    obtain ⟨hin, hcl, hDn, ha, hq, hu⟩ := hI
    refine k_seq ?_
    refine k_seq ?_
    refine s_region ?_
    refine s_do rfl rfl rfl (d_move rfl rfl) ?_
    refine s_do rfl rfl rfl (d_move rfl rfl) ?_
    refine s_do rfl rfl rfl (d_len rfl (z := 1) (by kernel_rfl) rfl) ?_
    refine s_do rfl rfl rfl (d_lss rfl rfl rfl) ?_
    refine s_end ?_
    refine k_dec rfl (fun h2 => ?_) (fun h2 => ?_)
    · -- yes: (i : Int) < (ns.length : Int)
      refine k_skip ?_
      refine k_seq ?_
      refine k_block ?_
      refine k_seq ?_
      refine s_region ?_
      obtain ⟨x, hx⟩ : ∃ x, ns[i]? = some x := ⟨_, List.getElem?_eq_getElem (by omega)⟩
      have hat := (H.rd 3 rfl hA).at (j := i) (u := .int .i64 x) (by simp [hx])
      refine s_do rfl rfl rfl (d_move rfl rfl) ?_
      refine s_do rfl rfl rfl (d_move rfl rfl) ?_
      refine s_do rfl rfl rfl (d_indexE rfl (z := 1) (j := i) (r := i) (by kernel_rfl) rfl rfl rfl (by omega) hat (by omega)) ?_
      refine s_do rfl rfl rfl (d_loadE rfl rfl (by kernel_rfl) (here hat)) ?_
      refine s_do rfl rfl rfl (d_rem rfl rfl rfl (by decide)) ?_
      refine s_do rfl rfl rfl (d_assign rfl rfl) ?_
      refine s_end ?_
      refine k_cut (fun a w => ∃ (mi : Int), Fr 129 [] [(13, .int .i64 mi), (0, .slice ao ns.length oc), (8, .int .i64 aa), (9, .pointer (some ⟨pl, 0, none⟩)), (10, .int .i64 (64 - u)), (11, .int .i64 q), (12, .int .i64 (i : Int)), (49, .int .i64 (i : Int)), (50, .slice ao ns.length oc), (51, .int .i64 (ns.length : Int)), (52, .bool (decide ((i : Int) < (ns.length : Int)))), (55, .slice ao ns.length oc), (56, .int .i64 (i : Int)), (57, eptr ao i), (58, .int .i64 x), (59, .int .i64 (x.tmod 50))] a ∧ Sep z (blk pl [.pointer (some ⟨pd, 0, none⟩), .pointer (some ⟨pt, 0, none⟩), .int .i64 ((sR hh).gen), .int .i64 ((sR hh).epoch), .int .i64 ((sR hh).pages), .int .i64 ((sR hh).start), .int .i64 ((sR hh).len), .int .i64 ((sR hh).head), .int .i64 ((sR hh).seq), .int .i64 aa, .int .i64 q, .int .i64 u, .bool false, .bool (decide ((sR hh).epoch < 4294967296))] 73 :: diskA pd D :: tblA pt :: A :: R) w ∧ (0 ≤ mi ∧ mi < 50)) ?_ ?_
      · -- 17
        refine k_seq ?_
        have hx1 := Int.tmod_lt_of_pos x (by decide : (0 : Int) < 50)
        have hx2 := Int.lt_tmod_of_pos x (by decide : (0 : Int) < 50)
        refine s_region ?_
        refine s_do rfl rfl rfl (d_move rfl rfl) ?_
        refine s_do rfl rfl rfl (d_lss rfl rfl rfl) ?_
        refine s_end ?_
        refine k_dec rfl (fun h3 => ?_) (fun h3 => ?_)
        · -- yes: (x.tmod 50 : Int) < 0
          refine s_region ?_
          refine s_do rfl rfl rfl (d_move rfl rfl) ?_
          refine s_do rfl rfl rfl (d_neg64 rfl rfl (r := -(x.tmod 50)) (by omega) (by omega)) ?_
          refine s_do rfl rfl rfl (d_assign rfl rfl) ?_
          refine s_end ?_
          exact fun _ hF => ⟨(-(x.tmod 50)), (hF.cons (hF.cons (hF.cons (hF.cons (hF.cons (hF.cons (hF.cons (hF.cons (hF.cons (hF.cons (hF.cons (hF.cons (hF.cons (hF.cons (hF.cons (hF.cons hF.nil 59 _ _ rfl rfl) 58 _ _ rfl rfl) 57 _ _ rfl rfl) 56 _ _ rfl rfl) 55 _ _ rfl rfl) 52 _ _ rfl rfl) 51 _ _ rfl rfl) 50 _ _ rfl rfl) 49 _ _ rfl rfl) 12 _ _ rfl rfl) 11 _ _ rfl rfl) 10 _ _ rfl rfl) 9 _ _ rfl rfl) 8 _ _ rfl rfl) 0 _ _ rfl rfl) 13 _ _ rfl rfl), H, (by omega)⟩
        · -- no: (x.tmod 50 : Int) < 0
          refine k_skip ?_
          exact fun _ hF => ⟨(x.tmod 50), (hF.cons (hF.cons (hF.cons (hF.cons (hF.cons (hF.cons (hF.cons (hF.cons (hF.cons (hF.cons (hF.cons (hF.cons (hF.cons (hF.cons (hF.cons (hF.cons hF.nil 59 _ _ rfl rfl) 58 _ _ rfl rfl) 57 _ _ rfl rfl) 56 _ _ rfl rfl) 55 _ _ rfl rfl) 52 _ _ rfl rfl) 51 _ _ rfl rfl) 50 _ _ rfl rfl) 49 _ _ rfl rfl) 12 _ _ rfl rfl) 11 _ _ rfl rfl) 10 _ _ rfl rfl) 9 _ _ rfl rfl) 8 _ _ rfl rfl) 0 _ _ rfl rfl) 13 _ _ rfl rfl), H, (by omega)⟩
      rintro a w ⟨mi, hF, H, hmi⟩
      revert a
      obtain ⟨m, rfl⟩ : ∃ m : Nat, mi = (m : Int) := ⟨mi.toNat, by omega⟩
      refine k_seq ?_
      refine s_region ?_
      refine s_do rfl rfl rfl (d_assign rfl rfl) ?_
      refine s_end ?_
      refine k_seq ?_
      refine k_seq ?_
      have H' := H.nilg 3 1
      have H : Sep z (grow 3 1 (.slice none 0 0) 0 [] :: blk pl [.pointer (some ⟨pd, 0, none⟩), .pointer (some ⟨pt, 0, none⟩), .int .i64 ((sR hh).gen), .int .i64 ((sR hh).epoch), .int .i64 ((sR hh).pages), .int .i64 ((sR hh).start), .int .i64 ((sR hh).len), .int .i64 ((sR hh).head), .int .i64 ((sR hh).seq), .int .i64 aa, .int .i64 q, .int .i64 u, .bool false, .bool (decide ((sR hh).epoch < 4294967296))] 73 :: diskA pd D :: tblA pt :: A :: R) w := H'
      clear H'
      refine s_region ?_
      refine s_do rfl rfl rfl (d_assign rfl rfl) ?_
      refine s_end ?_
      refine k_block ?_
      refine c_loop (σ := Nat × Value) (fun ⟨j, v1⟩ => [(15, .int .i64 (j : Int)), (14, v1), (0, .slice ao ns.length oc), (8, .int .i64 aa), (9, .pointer (some ⟨pl, 0, none⟩)), (10, .int .i64 (64 - u)), (11, .int .i64 q), (12, .int .i64 (i : Int)), (13, .int .i64 (m : Int)), (49, .int .i64 (i : Int)), (50, .slice ao ns.length oc), (51, .int .i64 (ns.length : Int)), (52, .bool (decide ((i : Int) < (ns.length : Int)))), (55, .slice ao ns.length oc), (56, .int .i64 (i : Int)), (57, eptr ao i), (58, .int .i64 x), (59, .int .i64 (x.tmod 50))])
        (fun ⟨j, v1⟩ w => Sep z (grow 3 1 v1 j ((rgN j).map (Value.int .i64)) :: blk pl [.pointer (some ⟨pd, 0, none⟩), .pointer (some ⟨pt, 0, none⟩), .int .i64 ((sR hh).gen), .int .i64 ((sR hh).epoch), .int .i64 ((sR hh).pages), .int .i64 ((sR hh).start), .int .i64 ((sR hh).len), .int .i64 ((sR hh).head), .int .i64 ((sR hh).seq), .int .i64 aa, .int .i64 q, .int .i64 u, .bool false, .bool (decide ((sR hh).epoch < 4294967296))] 73 :: diskA pd D :: tblA pt :: A :: R) w ∧ (j ≤ m)) (fun ⟨j, v1⟩ => m - j) ⟨0, .slice none 0 0⟩
        (fun _ hF => (hF.cons (hF.cons (hF.cons (hF.cons (hF.cons (hF.cons (hF.cons (hF.cons (hF.cons (hF.cons (hF.cons (hF.cons (hF.cons (hF.cons (hF.cons (hF.cons (hF.cons (hF.cons hF.nil 59 _ _ rfl rfl) 58 _ _ rfl rfl) 57 _ _ rfl rfl) 56 _ _ rfl rfl) 55 _ _ rfl rfl) 52 _ _ rfl rfl) 51 _ _ rfl rfl) 50 _ _ rfl rfl) 49 _ _ rfl rfl) 13 _ _ rfl rfl) 12 _ _ rfl rfl) 11 _ _ rfl rfl) 10 _ _ rfl rfl) 9 _ _ rfl rfl) 8 _ _ rfl rfl) 0 _ _ rfl rfl) 14 _ _ rfl (by go_num)) 15 _ _ rfl (by go_num))) ⟨H, by omega⟩ ?_
      clear H; rintro ⟨j, v1⟩ w ⟨H', hI⟩
      dsimp only at hI H' ⊢
      have H : Sep z (grow 3 1 v1 j ((rgN j).map (Value.int .i64)) :: blk pl [.pointer (some ⟨pd, 0, none⟩), .pointer (some ⟨pt, 0, none⟩), .int .i64 ((sR hh).gen), .int .i64 ((sR hh).epoch), .int .i64 ((sR hh).pages), .int .i64 ((sR hh).start), .int .i64 ((sR hh).len), .int .i64 ((sR hh).head), .int .i64 ((sR hh).seq), .int .i64 aa, .int .i64 q, .int .i64 u, .bool false, .bool (decide ((sR hh).epoch < 4294967296))] 73 :: diskA pd D :: tblA pt :: A :: R) w := H'
      clear H'
      have sv1 := H.says 0 rfl (fun h q => q.slc)
      have hjm := hI; clear hI
      refine k_seq ?_
      refine k_seq ?_
      refine s_region ?_
      refine s_do rfl rfl rfl (d_move rfl rfl) ?_
      refine s_do rfl rfl rfl (d_move rfl rfl) ?_
      refine s_do rfl rfl rfl (d_lss rfl rfl rfl) ?_
      refine s_end ?_
      refine k_dec rfl (fun h4 => ?_) (fun h4 => ?_)
      · -- yes: (j : Int) < (m : Int)
        refine k_skip ?_
        refine k_seq ?_
        refine k_block ?_
        refine s_region ?_
        refine s_do rfl rfl rfl (d_move rfl rfl) ?_
        refine s_do rfl rfl rfl (d_move rfl rfl) ?_
        refine s_go rfl rfl rfl (n_buildSlice H rfl (by kernel_rfl) (Elt.mk (P := Tryd.prog) (e := 3) (z := .int .i64 0) (sz := 1) (by_ := 8) (by kernel_rfl) rfl (by omega) (by omega)) rfl (by decide) (by decide) (out := [.int .i64 (j : Int)]) (by kernel_rfl)) ?_
        rintro _ w ⟨b1, rfl, H'⟩
        have H : Sep z (blk b1 [.int .i64 (j : Int)] 3 :: grow 3 1 v1 j ((rgN j).map (Value.int .i64)) :: blk pl [.pointer (some ⟨pd, 0, none⟩), .pointer (some ⟨pt, 0, none⟩), .int .i64 ((sR hh).gen), .int .i64 ((sR hh).epoch), .int .i64 ((sR hh).pages), .int .i64 ((sR hh).start), .int .i64 ((sR hh).len), .int .i64 ((sR hh).head), .int .i64 ((sR hh).seq), .int .i64 aa, .int .i64 q, .int .i64 u, .bool false, .bool (decide ((sR hh).epoch < 4294967296))] 73 :: diskA pd D :: tblA pt :: A :: R) w := H'
        clear H'
        refine s_go rfl rfl rfl (n_append 1 H rfl rfl (by kernel_rfl) (Elt.mk (P := Tryd.prog) (e := 3) (z := .int .i64 0) (sz := 1) (by_ := 8) (by kernel_rfl) rfl (by omega) (by omega)) rfl rfl (H.rd 0 rfl (fun h q => q.rd (by omega) (by omega) (by simp) rfl)) (by simp [Value.oneCell']) (by omega)) ?_
        rintro v2 w H'
        have H' : Sep z (blk b1 [.int .i64 (j : Int)] 3 :: grow 3 1 v2 (j + 1) ((rgN j).map (Value.int .i64) ++ [.int .i64 (j : Int)]) :: blk pl [.pointer (some ⟨pd, 0, none⟩), .pointer (some ⟨pt, 0, none⟩), .int .i64 ((sR hh).gen), .int .i64 ((sR hh).epoch), .int .i64 ((sR hh).pages), .int .i64 ((sR hh).start), .int .i64 ((sR hh).len), .int .i64 ((sR hh).head), .int .i64 ((sR hh).seq), .int .i64 aa, .int .i64 q, .int .i64 u, .bool false, .bool (decide ((sR hh).epoch < 4294967296))] 73 :: diskA pd D :: tblA pt :: A :: R) w := H'
        have ev2 : ((rgN j).map (Value.int .i64) ++ [.int .i64 (j : Int)] : List Value) = (rgN (j + 1)).map (Value.int .i64) := rgN_snoc j
        rw [ev2] at H'
        have H : Sep z (blk b1 [.int .i64 (j : Int)] 3 :: grow 3 1 v2 (j + 1) ((rgN (j + 1)).map (Value.int .i64)) :: blk pl [.pointer (some ⟨pd, 0, none⟩), .pointer (some ⟨pt, 0, none⟩), .int .i64 ((sR hh).gen), .int .i64 ((sR hh).epoch), .int .i64 ((sR hh).pages), .int .i64 ((sR hh).start), .int .i64 ((sR hh).len), .int .i64 ((sR hh).head), .int .i64 ((sR hh).seq), .int .i64 aa, .int .i64 q, .int .i64 u, .bool false, .bool (decide ((sR hh).epoch < 4294967296))] 73 :: diskA pd D :: tblA pt :: A :: R) w := H'
        clear H'
        have sv2 := H.says 1 rfl (fun h q => q.slc)
        refine s_do rfl rfl rfl (d_assign rfl rfl) ?_
        refine s_end ?_
        refine s_region ?_
        refine s_do rfl rfl rfl (d_move rfl rfl) ?_
        refine s_do rfl rfl rfl (d_add64 rfl rfl rfl (r := (j : Int) + 1) (by omega) (by omega)) ?_
        refine s_do rfl rfl rfl (d_assign rfl rfl) ?_
        refine s_end ?_
        have H' := H.pick 6 [1, 2, 3, 4, 5] rfl
        have H : Sep z (grow 3 1 v2 (j + 1) ((rgN (j + 1)).map (Value.int .i64)) :: blk pl [.pointer (some ⟨pd, 0, none⟩), .pointer (some ⟨pt, 0, none⟩), .int .i64 ((sR hh).gen), .int .i64 ((sR hh).epoch), .int .i64 ((sR hh).pages), .int .i64 ((sR hh).start), .int .i64 ((sR hh).len), .int .i64 ((sR hh).head), .int .i64 ((sR hh).seq), .int .i64 aa, .int .i64 q, .int .i64 u, .bool false, .bool (decide ((sR hh).epoch < 4294967296))] 73 :: diskA pd D :: tblA pt :: A :: R) w := H'
        clear H'
        intro _ hF
        refine ⟨⟨j + 1, v2⟩, (hF.cons (hF.cons (hF.cons (hF.cons (hF.cons (hF.cons (hF.cons (hF.cons (hF.cons (hF.cons (hF.cons (hF.cons (hF.cons (hF.cons (hF.cons (hF.cons (hF.cons (hF.cons hF.nil 59 _ _ rfl rfl) 58 _ _ rfl rfl) 57 _ _ rfl rfl) 56 _ _ rfl rfl) 55 _ _ rfl rfl) 52 _ _ rfl rfl) 51 _ _ rfl rfl) 50 _ _ rfl rfl) 49 _ _ rfl rfl) 13 _ _ rfl rfl) 12 _ _ rfl rfl) 11 _ _ rfl rfl) 10 _ _ rfl rfl) 9 _ _ rfl rfl) 8 _ _ rfl rfl) 0 _ _ rfl rfl) 14 _ _ rfl rfl) 15 _ _ rfl (by go_num)), ⟨H, ?_⟩, ?_⟩
        · dsimp only; omega
        · (dsimp only; omega)
      · -- no: (j : Int) < (m : Int)
        obtain rfl : m = j := by omega
        refine k_exit ?_
        refine k_here ?_
        refine k_seq ?_
        obtain ⟨ao1, c1, rfl⟩ := H.says 0 rfl (fun h q => q.slc)
        have H : Sep z (grow 3 1 (.slice ao1 m c1) m ((rgN m).map (Value.int .i64)) :: blk pl [.pointer (some ⟨pd, 0, none⟩), .pointer (some ⟨pt, 0, none⟩), .int .i64 ((sR hh).gen), .int .i64 ((sR hh).epoch), .int .i64 ((sR hh).pages), .int .i64 ((sR hh).start), .int .i64 ((sR hh).len), .int .i64 ((sR hh).head), .int .i64 ((sR hh).seq), .int .i64 aa, .int .i64 q, .int .i64 u, .bool false, .bool (decide ((sR hh).epoch < 4294967296))] 73 :: diskA pd D :: tblA pt :: A :: R) w := H
        refine s_region ?_
        refine s_do rfl rfl rfl (d_move rfl rfl) ?_
        refine s_do rfl rfl rfl (d_move rfl rfl) ?_
        refine s_do rfl rfl rfl (d_build rfl rfl (out := [.int .i64 0, .slice ao1 m c1, .int .i64 5, .int .i64 (i : Int), .int .i64 0, .int .i64 0, .slice none 0 0]) (by kernel_rfl)) ?_
        refine s_go rfl rfl rfl (n_alloc (P := Tryd.prog) H rfl (zs := [.int .i64 0, .slice none 0 0, .int .i64 0, .int .i64 0, .int .i64 0, .int .i64 0, .slice none 0 0]) (by kernel_rfl)) ?_
        rintro _ w ⟨b3, rfl, H'⟩
        have H : Sep z (blk b3 [.int .i64 0, .slice none 0 0, .int .i64 0, .int .i64 0, .int .i64 0, .int .i64 0, .slice none 0 0] 39 :: grow 3 1 (.slice ao1 m c1) m ((rgN m).map (Value.int .i64)) :: blk pl [.pointer (some ⟨pd, 0, none⟩), .pointer (some ⟨pt, 0, none⟩), .int .i64 ((sR hh).gen), .int .i64 ((sR hh).epoch), .int .i64 ((sR hh).pages), .int .i64 ((sR hh).start), .int .i64 ((sR hh).len), .int .i64 ((sR hh).head), .int .i64 ((sR hh).seq), .int .i64 aa, .int .i64 q, .int .i64 u, .bool false, .bool (decide ((sR hh).epoch < 4294967296))] 73 :: diskA pd D :: tblA pt :: A :: R) w := H'
        clear H'
        refine s_put rfl rfl (n_store 0 H rfl rfl rfl rfl (vs := [.int .i64 0, .slice ao1 m c1, .int .i64 5, .int .i64 (i : Int), .int .i64 0, .int .i64 0, .slice none 0 0]) rfl (by simp [u8, u32, Value.oneCell']) (by kernel_rfl) (by simp) (out := [.int .i64 0, .slice ao1 m c1, .int .i64 5, .int .i64 (i : Int), .int .i64 0, .int .i64 0, .slice none 0 0]) rfl) ?_
        rintro w H'
        have H : Sep z (blk b3 [.int .i64 0, .slice ao1 m c1, .int .i64 5, .int .i64 (i : Int), .int .i64 0, .int .i64 0, .slice none 0 0] 39 :: grow 3 1 (.slice ao1 m c1) m ((rgN m).map (Value.int .i64)) :: blk pl [.pointer (some ⟨pd, 0, none⟩), .pointer (some ⟨pt, 0, none⟩), .int .i64 ((sR hh).gen), .int .i64 ((sR hh).epoch), .int .i64 ((sR hh).pages), .int .i64 ((sR hh).start), .int .i64 ((sR hh).len), .int .i64 ((sR hh).head), .int .i64 ((sR hh).seq), .int .i64 aa, .int .i64 q, .int .i64 u, .bool false, .bool (decide ((sR hh).epoch < 4294967296))] 73 :: diskA pd D :: tblA pt :: A :: R) w := H'
        clear H'
        refine s_end ?_
        refine k_seq ?_
        refine s_region ?_
        refine s_do rfl rfl rfl (d_assign rfl rfl) ?_
        refine s_end ?_
        refine k_cut (fun a w => ∃ (cd : Int), Fr 129 [] [(17, .int .i64 cd), (0, .slice ao ns.length oc), (8, .int .i64 aa), (9, .pointer (some ⟨pl, 0, none⟩)), (10, .int .i64 (64 - u)), (11, .int .i64 q), (12, .int .i64 (i : Int)), (13, .int .i64 (m : Int)), (14, .slice ao1 m c1), (15, .int .i64 (m : Int)), (16, .pointer (some ⟨b3, 0, none⟩)), (49, .int .i64 (i : Int)), (50, .slice ao ns.length oc), (51, .int .i64 (ns.length : Int)), (52, .bool (decide ((i : Int) < (ns.length : Int)))), (55, .slice ao ns.length oc), (56, .int .i64 (i : Int)), (57, eptr ao i), (58, .int .i64 x), (59, .int .i64 (x.tmod 50)), (64, .int .i64 (m : Int)), (65, .int .i64 (m : Int)), (66, .bool (decide ((m : Int) < (m : Int)))), (73, .slice ao1 m c1), (74, .int .i64 (i : Int)), (75, .agg #[.int .i64 0, .slice ao1 m c1, .int .i64 5, .int .i64 (i : Int), .int .i64 0, .int .i64 0, .slice none 0 0])] a ∧ Sep z (blk b3 [.int .i64 0, .slice ao1 m c1, .int .i64 5, .int .i64 (i : Int), .int .i64 0, .int .i64 0, .slice none 0 0] 39 :: grow 3 1 (.slice ao1 m c1) m ((rgN m).map (Value.int .i64)) :: blk pl [.pointer (some ⟨pd, 0, none⟩), .pointer (some ⟨pt, 0, none⟩), .int .i64 ((sR hh).gen), .int .i64 ((sR hh).epoch), .int .i64 ((sR hh).pages), .int .i64 ((sR hh).start), .int .i64 ((sR hh).len), .int .i64 ((sR hh).head), .int .i64 ((sR hh).seq), .int .i64 aa, .int .i64 q, .int .i64 u, .bool false, .bool (decide ((sR hh).epoch < 4294967296))] 73 :: diskA pd D :: tblA pt :: A :: R) w ∧ (codeR cd m u)) ?_ ?_
        · -- 26
          refine k_block ?_
          refine k_seq ?_
          refine s_region ?_
          refine s_do rfl rfl rfl (d_move rfl rfl) ?_
          refine s_do rfl rfl rfl (d_gtr rfl rfl rfl) ?_
          refine s_do rfl rfl rfl (d_assign rfl rfl) ?_
          refine s_end ?_
          refine k_dec rfl (fun h5 => ?_) (fun h5 => ?_)
          · -- yes: (40 : Int) < (m : Int)
            refine s_region ?_
            refine s_do rfl rfl rfl (d_assign rfl rfl) ?_
            refine s_end ?_
            exact fun _ hF => ⟨16, (hF.cons (hF.cons (hF.cons (hF.cons (hF.cons (hF.cons (hF.cons (hF.cons (hF.cons (hF.cons (hF.cons (hF.cons (hF.cons (hF.cons (hF.cons (hF.cons (hF.cons (hF.cons (hF.cons (hF.cons (hF.cons (hF.cons (hF.cons (hF.cons (hF.cons (hF.cons hF.nil 75 _ _ rfl rfl) 74 _ _ rfl rfl) 73 _ _ rfl rfl) 66 _ _ rfl rfl) 65 _ _ rfl rfl) 64 _ _ rfl rfl) 59 _ _ rfl rfl) 58 _ _ rfl rfl) 57 _ _ rfl rfl) 56 _ _ rfl rfl) 55 _ _ rfl rfl) 52 _ _ rfl rfl) 51 _ _ rfl rfl) 50 _ _ rfl rfl) 49 _ _ rfl rfl) 16 _ _ rfl rfl) 15 _ _ rfl rfl) 14 _ _ rfl rfl) 13 _ _ rfl rfl) 12 _ _ rfl rfl) 11 _ _ rfl rfl) 10 _ _ rfl rfl) 9 _ _ rfl rfl) 8 _ _ rfl rfl) 0 _ _ rfl rfl) 17 _ _ rfl rfl), H, (by unfold codeR; omega)⟩
          · -- no: (40 : Int) < (m : Int)
            refine k_seq ?_
            refine s_region ?_
            refine s_do rfl rfl rfl (d_move rfl rfl) ?_
            refine s_do rfl rfl rfl (d_eql rfl rfl rfl) ?_
            refine s_do rfl rfl rfl (d_assign rfl rfl) ?_
            refine s_end ?_
            refine k_dec rfl (fun h6 => ?_) (fun h6 => ?_)
            · -- yes: (m : Int) = 0
              refine s_region ?_
              refine s_do rfl rfl rfl (d_assign rfl rfl) ?_
              refine s_end ?_
              exact fun _ hF => ⟨1, (hF.cons (hF.cons (hF.cons (hF.cons (hF.cons (hF.cons (hF.cons (hF.cons (hF.cons (hF.cons (hF.cons (hF.cons (hF.cons (hF.cons (hF.cons (hF.cons (hF.cons (hF.cons (hF.cons (hF.cons (hF.cons (hF.cons (hF.cons (hF.cons (hF.cons (hF.cons hF.nil 75 _ _ rfl rfl) 74 _ _ rfl rfl) 73 _ _ rfl rfl) 66 _ _ rfl rfl) 65 _ _ rfl rfl) 64 _ _ rfl rfl) 59 _ _ rfl rfl) 58 _ _ rfl rfl) 57 _ _ rfl rfl) 56 _ _ rfl rfl) 55 _ _ rfl rfl) 52 _ _ rfl rfl) 51 _ _ rfl rfl) 50 _ _ rfl rfl) 49 _ _ rfl rfl) 16 _ _ rfl rfl) 15 _ _ rfl rfl) 14 _ _ rfl rfl) 13 _ _ rfl rfl) 12 _ _ rfl rfl) 11 _ _ rfl rfl) 10 _ _ rfl rfl) 9 _ _ rfl rfl) 8 _ _ rfl rfl) 0 _ _ rfl rfl) 17 _ _ rfl rfl), H, (by unfold codeR; omega)⟩
            · -- no: (m : Int) = 0
              refine k_seq ?_
              refine s_region ?_
              refine s_do rfl rfl rfl (d_move rfl rfl) ?_
              refine s_do rfl rfl rfl (d_add64 rfl rfl rfl (r := (m : Int) + 1) (by omega) (by omega)) ?_
              refine s_do rfl rfl rfl (d_move rfl rfl) ?_
              refine s_do rfl rfl rfl (d_gtr rfl rfl rfl) ?_
              refine s_do rfl rfl rfl (d_assign rfl rfl) ?_
              refine s_end ?_
              refine k_dec rfl (fun h7 => ?_) (fun h7 => ?_)
              · -- yes: (64 - u : Int) < ((m : Int) + 1)
                refine s_region ?_
                refine s_do rfl rfl rfl (d_assign rfl rfl) ?_
                refine s_end ?_
                exact fun _ hF => ⟨15, (hF.cons (hF.cons (hF.cons (hF.cons (hF.cons (hF.cons (hF.cons (hF.cons (hF.cons (hF.cons (hF.cons (hF.cons (hF.cons (hF.cons (hF.cons (hF.cons (hF.cons (hF.cons (hF.cons (hF.cons (hF.cons (hF.cons (hF.cons (hF.cons (hF.cons (hF.cons hF.nil 75 _ _ rfl rfl) 74 _ _ rfl rfl) 73 _ _ rfl rfl) 66 _ _ rfl rfl) 65 _ _ rfl rfl) 64 _ _ rfl rfl) 59 _ _ rfl rfl) 58 _ _ rfl rfl) 57 _ _ rfl rfl) 56 _ _ rfl rfl) 55 _ _ rfl rfl) 52 _ _ rfl rfl) 51 _ _ rfl rfl) 50 _ _ rfl rfl) 49 _ _ rfl rfl) 16 _ _ rfl rfl) 15 _ _ rfl rfl) 14 _ _ rfl rfl) 13 _ _ rfl rfl) 12 _ _ rfl rfl) 11 _ _ rfl rfl) 10 _ _ rfl rfl) 9 _ _ rfl rfl) 8 _ _ rfl rfl) 0 _ _ rfl rfl) 17 _ _ rfl rfl), H, (by unfold codeR; omega)⟩
              · -- no: (64 - u : Int) < ((m : Int) + 1)
                refine k_skip ?_
                exact fun _ hF => ⟨0, (hF.cons (hF.cons (hF.cons (hF.cons (hF.cons (hF.cons (hF.cons (hF.cons (hF.cons (hF.cons (hF.cons (hF.cons (hF.cons (hF.cons (hF.cons (hF.cons (hF.cons (hF.cons (hF.cons (hF.cons (hF.cons (hF.cons (hF.cons (hF.cons (hF.cons (hF.cons hF.nil 75 _ _ rfl rfl) 74 _ _ rfl rfl) 73 _ _ rfl rfl) 66 _ _ rfl rfl) 65 _ _ rfl rfl) 64 _ _ rfl rfl) 59 _ _ rfl rfl) 58 _ _ rfl rfl) 57 _ _ rfl rfl) 56 _ _ rfl rfl) 55 _ _ rfl rfl) 52 _ _ rfl rfl) 51 _ _ rfl rfl) 50 _ _ rfl rfl) 49 _ _ rfl rfl) 16 _ _ rfl rfl) 15 _ _ rfl rfl) 14 _ _ rfl rfl) 13 _ _ rfl rfl) 12 _ _ rfl rfl) 11 _ _ rfl rfl) 10 _ _ rfl rfl) 9 _ _ rfl rfl) 8 _ _ rfl rfl) 0 _ _ rfl rfl) 17 _ _ rfl rfl), H, (by unfold codeR; omega)⟩
        rintro a w ⟨cd, hF, H, hcdR⟩
        revert a
        have hil : (opImgs (rgN m) 5 (i : Int)).length = m := (opImgs_len _ _ _).trans (rgN_len m)
        refine k_seq ?_
        refine k_seq ?_
        refine s_region ?_
        refine s_do rfl rfl rfl (d_move rfl rfl) ?_
        refine s_do rfl rfl rfl (d_loadAgg rfl rfl (vs := [.int .i64 0, .slice ao1 m c1, .int .i64 5, .int .i64 (i : Int), .int .i64 0, .int .i64 0, .slice none 0 0]) (by kernel_rfl) (here ((H.blk 0 rfl).part 0 7 _ rfl))) ?_
        refine s_callC rfl rfl rfl rfl rfl (fun w => Tryd.call10 _ w) (images_c _ _ _ _ _ _ _ (rgN m) _ (fun h q => by rw [rgN_len]; exact q.rd) rfl (by rw [rgN_len]; omega)) H 2 [1, 0] rfl rfl ?_
        rintro v2 w _ ⟨hqi2, him2, rfl⟩ H'
        have H : Sep z (poolA hqi2 :: grow 3 1 (.slice ao1 m c1) m ((rgN m).map (Value.int .i64)) :: blk b3 [.int .i64 0, .slice ao1 m c1, .int .i64 5, .int .i64 (i : Int), .int .i64 0, .int .i64 0, .slice none 0 0] 39 :: blk pl [.pointer (some ⟨pd, 0, none⟩), .pointer (some ⟨pt, 0, none⟩), .int .i64 ((sR hh).gen), .int .i64 ((sR hh).epoch), .int .i64 ((sR hh).pages), .int .i64 ((sR hh).start), .int .i64 ((sR hh).len), .int .i64 ((sR hh).head), .int .i64 ((sR hh).seq), .int .i64 aa, .int .i64 q, .int .i64 u, .bool false, .bool (decide ((sR hh).epoch < 4294967296))] 73 :: diskA pd D :: tblA pt :: A :: R) w := H'
        clear H'
        have sv2 : Slc v2 (opImgs (rgN m) 5 (i : Int)).length := by obtain ⟨ao, c, e⟩ := him2.slc; exact ⟨ao, c, e⟩
        refine s_callC rfl rfl rfl rfl rfl (fun w => Tryd.call9 _ w) (appendS_c _ _ _ _ _ _ _ _ _ _ (opImgs (rgN m) 5 (i : Int)) _ (fun h q => him2.le q) _ (2 * i) hcl (by omega) (by rw [hDn]; exact hok) rfl (by omega) (by omega) (by omega)) H 6 [3, 5, 4, 0, 1, 2] rfl rfl ?_
        rintro _ w _ (⟨c, hcode, rfl, rfl⟩ | ⟨hl, hrec, hroom, k, hk, rfl, rfl⟩) H'
        · -- a case
          have H : Sep z (blk pl [.pointer (some ⟨pd, 0, none⟩), .pointer (some ⟨pt, 0, none⟩), .int .i64 ((sR hh).gen), .int .i64 ((sR hh).epoch), .int .i64 ((sR hh).pages), .int .i64 ((sR hh).start), .int .i64 ((sR hh).len), .int .i64 ((sR hh).head), .int .i64 ((sR hh).seq), .int .i64 aa, .int .i64 q, .int .i64 u, .bool false, .bool (decide ((sR hh).epoch < 4294967296))] 73 :: tblA pt :: diskA pd D :: poolA hqi2 :: grow 3 1 (.slice ao1 m c1) m ((rgN m).map (Value.int .i64)) :: blk b3 [.int .i64 0, .slice ao1 m c1, .int .i64 5, .int .i64 (i : Int), .int .i64 0, .int .i64 0, .slice none 0 0] 39 :: A :: R) w := H'
          clear H'
          have hcne := hcode.ne
          obtain rfl : c = cd := code_bad hcode hcdR hil (rgN_ok (by omega) _) ⟨fun h => by have h1 := h.1; rw [if_neg (by decide)] at h1; omega, fun h => ⟨by rw [if_neg (by decide)]; omega, rfl, by omega⟩⟩
          refine s_do rfl rfl rfl (d_move rfl rfl) ?_
          refine s_do rfl rfl rfl (d_neq rfl rfl rfl) ?_
          refine s_end ?_
          refine k_dec rfl (fun h8 => ?_) (fun h8 => ?_)
          · exact absurd rfl h8
          · -- no: (c : Int) ≠ c
            refine k_skip ?_
            refine k_seq ?_
            refine k_seq ?_
            refine s_region ?_
            refine s_do rfl rfl rfl (d_move rfl rfl) ?_
            refine s_do rfl rfl rfl (d_eql rfl rfl rfl) ?_
            refine s_end ?_
            refine k_dec rfl (fun h9 => ?_) (fun h9 => ?_)
            · exact absurd h9 hcne
            · -- no: (c : Int) = 0
              refine k_skip ?_
              refine k_seq ?_
              refine k_seq ?_
              refine s_region ?_
              refine s_do rfl rfl rfl (d_move rfl rfl) ?_
              refine s_do rfl rfl rfl (d_eql rfl rfl rfl) ?_
              refine s_end ?_
              refine k_dec rfl (fun h10 => ?_) (fun h10 => ?_)
              · -- yes: (c : Int) = 15
                refine k_seq ?_
                refine s_region ?_
                refine s_do rfl rfl rfl (d_move rfl rfl) ?_
                refine s_callC rfl rfl rfl rfl rfl (fun w => Tryd.call15 _ w) (drop_c _ _ _ _ _ _ _ _ _) H 1 [0] rfl rfl ?_
                rintro _ w _ ⟨rfl, rfl⟩ H'
                have H : Sep z (blk pl [.pointer (some ⟨pd, 0, none⟩), .pointer (some ⟨pt, 0, none⟩), .int .i64 ((sR hh).gen), .int .i64 ((sR hh).epoch), .int .i64 ((sR hh).pages), .int .i64 ((sR hh).start), .int .i64 ((sR hh).len), .int .i64 ((sR hh).head), .int .i64 ((sR hh).seq), .int .i64 aa, .int .i64 q, .int .i64 0, .bool false, .bool (decide ((sR hh).epoch < 4294967296))] 73 :: tblA pt :: diskA pd D :: poolA hqi2 :: grow 3 1 (.slice ao1 m c1) m ((rgN m).map (Value.int .i64)) :: blk b3 [.int .i64 0, .slice ao1 m c1, .int .i64 5, .int .i64 (i : Int), .int .i64 0, .int .i64 0, .slice none 0 0] 39 :: A :: R) w := H'
                clear H'
                refine s_end ?_
                refine s_region ?_
                refine s_do rfl rfl rfl (d_assign rfl rfl) ?_
                refine s_end ?_
                refine k_seq ?_
                refine s_region ?_
                refine s_do rfl rfl rfl (d_move rfl rfl) ?_
                refine s_callC rfl rfl rfl rfl rfl (fun w => Tryd.call14 _ w) (tail_c _ _ _ _ _ _ _ _ _) H 1 [0] rfl rfl ?_
                rintro _ w _ ⟨rfl, rfl⟩ H'
                have H : Sep z (blk pl [.pointer (some ⟨pd, 0, none⟩), .pointer (some ⟨pt, 0, none⟩), .int .i64 ((sR hh).gen), .int .i64 ((sR hh).epoch), .int .i64 ((sR hh).pages), .int .i64 ((sR hh).start), .int .i64 ((sR hh).len), .int .i64 ((sR hh).head), .int .i64 ((sR hh).seq), .int .i64 aa, .int .i64 q, .int .i64 0, .bool false, .bool (decide ((sR hh).epoch < 4294967296))] 73 :: tblA pt :: diskA pd D :: poolA hqi2 :: grow 3 1 (.slice ao1 m c1) m ((rgN m).map (Value.int .i64)) :: blk b3 [.int .i64 0, .slice ao1 m c1, .int .i64 5, .int .i64 (i : Int), .int .i64 0, .int .i64 0, .slice none 0 0] 39 :: A :: R) w := H'
                clear H'
                refine s_do rfl rfl rfl (d_move rfl rfl) ?_
                refine s_do rfl rfl rfl (d_extract rfl rfl rfl) ?_
                refine s_do rfl rfl rfl (d_extract rfl rfl rfl) ?_
                refine s_do rfl rfl rfl (d_assign rfl rfl) ?_
                refine s_do rfl rfl rfl (d_assign rfl rfl) ?_
                refine s_end ?_
                refine k_seq ?_
                refine s_region ?_
                refine s_do rfl rfl rfl (d_move rfl rfl) ?_
                refine s_callC rfl rfl rfl rfl rfl (fun w => Tryd.call13 _ w) (room_c _ _ _ _ _ _ _ _ _ (by omega)) H 1 [0] rfl rfl ?_
                rintro _ w _ ⟨rfl, rfl⟩ H'
                have H : Sep z (blk pl [.pointer (some ⟨pd, 0, none⟩), .pointer (some ⟨pt, 0, none⟩), .int .i64 ((sR hh).gen), .int .i64 ((sR hh).epoch), .int .i64 ((sR hh).pages), .int .i64 ((sR hh).start), .int .i64 ((sR hh).len), .int .i64 ((sR hh).head), .int .i64 ((sR hh).seq), .int .i64 aa, .int .i64 q, .int .i64 0, .bool false, .bool (decide ((sR hh).epoch < 4294967296))] 73 :: tblA pt :: diskA pd D :: poolA hqi2 :: grow 3 1 (.slice ao1 m c1) m ((rgN m).map (Value.int .i64)) :: blk b3 [.int .i64 0, .slice ao1 m c1, .int .i64 5, .int .i64 (i : Int), .int .i64 0, .int .i64 0, .slice none 0 0] 39 :: A :: R) w := H'
                clear H'
                refine s_do rfl rfl rfl (d_move rfl rfl) ?_
                refine s_do rfl rfl rfl (d_neq rfl rfl rfl) ?_
                refine s_do rfl rfl rfl (d_move rfl rfl) ?_
                refine s_part 119 rfl (fun h11 => ?_) (fun h11 => ?_)
                · (rw [if_neg (by decide)] at h11; exfalso; omega)
                · -- no: (if false then 0 else (sR hh).len - 0 : Int) ≠ 64
                  refine s_do rfl rfl rfl (d_move rfl rfl) ?_
                  refine s_do rfl rfl rfl (d_move rfl rfl) ?_
                  refine s_do rfl rfl rfl (d_neq rfl rfl rfl) ?_
                  refine s_do rfl rfl rfl (d_pick_f rfl rfl rfl) ?_
                  refine s_do rfl rfl rfl (d_move rfl rfl) ?_
                  refine s_part 124 rfl (fun h12 => ?_) (fun h12 => ?_)
                  · exact absurd rfl h12
                  · -- no: (aa : Int) ≠ aa
                    refine s_do rfl rfl rfl (d_move rfl rfl) ?_
                    refine s_do rfl rfl rfl (d_move rfl rfl) ?_
                    refine s_do rfl rfl rfl (d_neq rfl rfl rfl) ?_
                    refine s_do rfl rfl rfl (d_pick_f rfl rfl rfl) ?_
                    refine s_end ?_
                    refine k_dec rfl (fun h13 => ?_) (fun h13 => ?_)
                    · exact absurd rfl h13
                    · -- no: (q : Int) ≠ q
                      refine k_skip ?_
                      refine s_region ?_
                      refine s_do rfl rfl rfl (d_move rfl rfl) ?_
                      refine s_do rfl rfl rfl (d_add64 rfl rfl rfl (r := (i : Int) + 1) (by omega) (by omega)) ?_
                      refine s_do rfl rfl rfl (d_assign rfl rfl) ?_
                      refine s_end ?_
                      have H' := H.pick 7 [0, 2, 1, 6] rfl
                      have H : Sep z (blk pl [.pointer (some ⟨pd, 0, none⟩), .pointer (some ⟨pt, 0, none⟩), .int .i64 ((sR hh).gen), .int .i64 ((sR hh).epoch), .int .i64 ((sR hh).pages), .int .i64 ((sR hh).start), .int .i64 ((sR hh).len), .int .i64 ((sR hh).head), .int .i64 ((sR hh).seq), .int .i64 aa, .int .i64 q, .int .i64 0, .bool false, .bool (decide ((sR hh).epoch < 4294967296))] 73 :: diskA pd D :: tblA pt :: A :: R) w := H'
                      clear H'
                      intro _ hF
                      refine ⟨⟨i + 1, D, aa, q, 0⟩, (hF.cons (hF.cons (hF.cons (hF.cons (hF.cons (hF.cons hF.nil 9 _ _ rfl rfl) 0 _ _ rfl rfl) 8 _ _ rfl rfl) 11 _ _ rfl rfl) 10 _ _ rfl (congrArg (Value.int .i64) (by dsimp only; omega))) 12 _ _ rfl (by go_num)), ⟨H, ?_⟩, ?_⟩
                      · exact ⟨by omega, hcl.le (by omega), hDn, by dsimp only; omega, by dsimp only; omega, by dsimp only; omega⟩
                      · (dsimp only; omega)
              · -- no: (c : Int) = 15
                refine k_skip ?_
                refine k_seq ?_
                refine s_region ?_
                refine s_do rfl rfl rfl (d_move rfl rfl) ?_
                refine s_callC rfl rfl rfl rfl rfl (fun w => Tryd.call14 _ w) (tail_c _ _ _ _ _ _ _ _ _) H 1 [0] rfl rfl ?_
                rintro _ w _ ⟨rfl, rfl⟩ H'
                have H : Sep z (blk pl [.pointer (some ⟨pd, 0, none⟩), .pointer (some ⟨pt, 0, none⟩), .int .i64 ((sR hh).gen), .int .i64 ((sR hh).epoch), .int .i64 ((sR hh).pages), .int .i64 ((sR hh).start), .int .i64 ((sR hh).len), .int .i64 ((sR hh).head), .int .i64 ((sR hh).seq), .int .i64 aa, .int .i64 q, .int .i64 u, .bool false, .bool (decide ((sR hh).epoch < 4294967296))] 73 :: tblA pt :: diskA pd D :: poolA hqi2 :: grow 3 1 (.slice ao1 m c1) m ((rgN m).map (Value.int .i64)) :: blk b3 [.int .i64 0, .slice ao1 m c1, .int .i64 5, .int .i64 (i : Int), .int .i64 0, .int .i64 0, .slice none 0 0] 39 :: A :: R) w := H'
                clear H'
                refine s_do rfl rfl rfl (d_move rfl rfl) ?_
                refine s_do rfl rfl rfl (d_extract rfl rfl rfl) ?_
                refine s_do rfl rfl rfl (d_extract rfl rfl rfl) ?_
                refine s_do rfl rfl rfl (d_assign rfl rfl) ?_
                refine s_do rfl rfl rfl (d_assign rfl rfl) ?_
                refine s_end ?_
                refine k_seq ?_
                refine s_region ?_
                refine s_do rfl rfl rfl (d_move rfl rfl) ?_
                refine s_callC rfl rfl rfl rfl rfl (fun w => Tryd.call13 _ w) (room_c _ _ _ _ _ _ _ _ _ (by omega)) H 1 [0] rfl rfl ?_
                rintro _ w _ ⟨rfl, rfl⟩ H'
                have H : Sep z (blk pl [.pointer (some ⟨pd, 0, none⟩), .pointer (some ⟨pt, 0, none⟩), .int .i64 ((sR hh).gen), .int .i64 ((sR hh).epoch), .int .i64 ((sR hh).pages), .int .i64 ((sR hh).start), .int .i64 ((sR hh).len), .int .i64 ((sR hh).head), .int .i64 ((sR hh).seq), .int .i64 aa, .int .i64 q, .int .i64 u, .bool false, .bool (decide ((sR hh).epoch < 4294967296))] 73 :: tblA pt :: diskA pd D :: poolA hqi2 :: grow 3 1 (.slice ao1 m c1) m ((rgN m).map (Value.int .i64)) :: blk b3 [.int .i64 0, .slice ao1 m c1, .int .i64 5, .int .i64 (i : Int), .int .i64 0, .int .i64 0, .slice none 0 0] 39 :: A :: R) w := H'
                clear H'
                refine s_do rfl rfl rfl (d_move rfl rfl) ?_
                refine s_do rfl rfl rfl (d_neq rfl rfl rfl) ?_
                refine s_do rfl rfl rfl (d_move rfl rfl) ?_
                refine s_part 119 rfl (fun h14 => ?_) (fun h14 => ?_)
                · (rw [if_neg (by decide)] at h14; exfalso; omega)
                · -- no: (if false then 0 else (sR hh).len - u : Int) ≠ (64 - u)
                  refine s_do rfl rfl rfl (d_move rfl rfl) ?_
                  refine s_do rfl rfl rfl (d_move rfl rfl) ?_
                  refine s_do rfl rfl rfl (d_neq rfl rfl rfl) ?_
                  refine s_do rfl rfl rfl (d_pick_f rfl rfl rfl) ?_
                  refine s_do rfl rfl rfl (d_move rfl rfl) ?_
                  refine s_part 124 rfl (fun h15 => ?_) (fun h15 => ?_)
                  · exact absurd rfl h15
                  · -- no: (aa : Int) ≠ aa
                    refine s_do rfl rfl rfl (d_move rfl rfl) ?_
                    refine s_do rfl rfl rfl (d_move rfl rfl) ?_
                    refine s_do rfl rfl rfl (d_neq rfl rfl rfl) ?_
                    refine s_do rfl rfl rfl (d_pick_f rfl rfl rfl) ?_
                    refine s_end ?_
                    refine k_dec rfl (fun h16 => ?_) (fun h16 => ?_)
                    · exact absurd rfl h16
                    · -- no: (q : Int) ≠ q
                      refine k_skip ?_
                      refine s_region ?_
                      refine s_do rfl rfl rfl (d_move rfl rfl) ?_
                      refine s_do rfl rfl rfl (d_add64 rfl rfl rfl (r := (i : Int) + 1) (by omega) (by omega)) ?_
                      refine s_do rfl rfl rfl (d_assign rfl rfl) ?_
                      refine s_end ?_
                      have H' := H.pick 7 [0, 2, 1, 6] rfl
                      have H : Sep z (blk pl [.pointer (some ⟨pd, 0, none⟩), .pointer (some ⟨pt, 0, none⟩), .int .i64 ((sR hh).gen), .int .i64 ((sR hh).epoch), .int .i64 ((sR hh).pages), .int .i64 ((sR hh).start), .int .i64 ((sR hh).len), .int .i64 ((sR hh).head), .int .i64 ((sR hh).seq), .int .i64 aa, .int .i64 q, .int .i64 u, .bool false, .bool (decide ((sR hh).epoch < 4294967296))] 73 :: diskA pd D :: tblA pt :: A :: R) w := H'
                      clear H'
                      intro _ hF
                      refine ⟨⟨i + 1, D, aa, q, u⟩, (hF.cons (hF.cons (hF.cons (hF.cons (hF.cons (hF.cons hF.nil 9 _ _ rfl rfl) 0 _ _ rfl rfl) 8 _ _ rfl rfl) 11 _ _ rfl rfl) 10 _ _ rfl rfl) 12 _ _ rfl (by go_num)), ⟨H, ?_⟩, ?_⟩
                      · exact ⟨by omega, hcl.le (by omega), hDn, by dsimp only; omega, by dsimp only; omega, by dsimp only; omega⟩
                      · (dsimp only; omega)
        · -- a case
          have H : Sep z (blk pl [.pointer (some ⟨pd, 0, none⟩), .pointer (some ⟨pt, 0, none⟩), .int .i64 ((sR hh).gen), .int .i64 ((sR hh).epoch), .int .i64 ((sR hh).pages), .int .i64 ((sR hh).start), .int .i64 ((sR hh).len), .int .i64 ((sR hh).head), .int .i64 ((sR hh).seq), .int .i64 ((aa + (1 + ((opImgs (rgN m) 5 (i : Int)).length : Int))) % (sR hh).len), .int .i64 (q + 1), .int .i64 (u + (1 + ((opImgs (rgN m) 5 (i : Int)).length : Int))), .bool false, .bool (decide ((sR hh).epoch < 4294967296))] 73 :: tblA pt :: diskA pd (appD D (sR hh) aa k (recB (sR hh).epoch q (opImgs (rgN m) 5 (i : Int)))) :: poolA hqi2 :: grow 3 1 (.slice ao1 m c1) m ((rgN m).map (Value.int .i64)) :: blk b3 [.int .i64 0, .slice ao1 m c1, .int .i64 5, .int .i64 (i : Int), .int .i64 0, .int .i64 0, .slice none 0 0] 39 :: A :: R) w := H'
          clear H'
          obtain rfl : cd = 0 := by have h1 := hroom.1; rw [if_neg (by decide)] at h1; rcases hcdR with h | h | h | h <;> omega
          refine s_do rfl rfl rfl (d_move rfl rfl) ?_
          refine s_do rfl rfl rfl (d_neq rfl rfl rfl) ?_
          refine k_updA 92 (u := .bool (decide ((0 : Int) ≠ 0))) (v := .bool false) rfl (congrArg Value.bool (by decide)) ?_
          refine s_end ?_
          refine k_false rfl ?_
          refine k_skip ?_
          refine k_seq ?_
          refine k_seq ?_
          refine s_region ?_
          refine s_do rfl rfl rfl (d_move rfl rfl) ?_
          refine s_do rfl rfl rfl (d_eql rfl rfl rfl) ?_
          refine k_updA 94 (u := .bool (decide ((0 : Int) = 0))) (v := .bool true) rfl (congrArg Value.bool (by decide)) ?_
          refine s_end ?_
          refine k_true rfl ?_
          refine k_seq ?_
          refine s_region ?_
          refine s_do rfl rfl rfl (d_move rfl rfl) ?_
          refine s_do rfl rfl rfl (d_move rfl rfl) ?_
          refine s_do rfl rfl rfl (d_sub64 rfl rfl rfl (r := (64 - u) - (m : Int)) (by omega) (by omega)) ?_
          refine s_do rfl rfl rfl (d_sub64 rfl rfl rfl (r := ((64 - u) - (m : Int)) - 1) (by omega) (by omega)) ?_
          refine s_do rfl rfl rfl (d_assign rfl rfl) ?_
          refine s_end ?_
          refine k_seq ?_
          refine s_region ?_
          refine s_do rfl rfl rfl (d_move rfl rfl) ?_
          refine s_do rfl rfl rfl (d_move rfl rfl) ?_
          refine s_do rfl rfl rfl (d_add64 rfl rfl rfl (r := aa + (m : Int)) (by omega) (by omega)) ?_
          refine s_do rfl rfl rfl (d_add64 rfl rfl rfl (r := (aa + (m : Int)) + 1) (by omega) (by omega)) ?_
          refine s_do rfl rfl rfl (d_rem64 rfl rfl rfl (r := ((aa + (m : Int)) + 1) % 64) (by omega) (by omega) (by omega)) ?_
          refine s_do rfl rfl rfl (d_assign rfl rfl) ?_
          refine s_end ?_
          refine s_region ?_
          refine s_do rfl rfl rfl (d_move rfl rfl) ?_
          refine s_do rfl rfl rfl (d_add64 rfl rfl rfl (r := q + 1) (by omega) (by omega)) ?_
          refine s_do rfl rfl rfl (d_assign rfl rfl) ?_
          refine s_end ?_
          refine k_seq ?_
          refine k_seq ?_
          refine s_region ?_
          refine s_do rfl rfl rfl (d_move rfl rfl) ?_
          refine s_do rfl rfl rfl (d_eql rfl rfl rfl) ?_
          refine k_updA 107 (u := .bool (decide ((0 : Int) = 15))) (v := .bool false) rfl (congrArg Value.bool (by decide)) ?_
          refine s_end ?_
          refine k_false rfl ?_
          refine k_skip ?_
          refine k_seq ?_
          refine s_region ?_
          refine s_do rfl rfl rfl (d_move rfl rfl) ?_
          refine s_callC rfl rfl rfl rfl rfl (fun w => Tryd.call14 _ w) (tail_c _ _ _ _ _ _ _ _ _) H 1 [0] rfl rfl ?_
          rintro _ w _ ⟨rfl, rfl⟩ H'
          have H : Sep z (blk pl [.pointer (some ⟨pd, 0, none⟩), .pointer (some ⟨pt, 0, none⟩), .int .i64 ((sR hh).gen), .int .i64 ((sR hh).epoch), .int .i64 ((sR hh).pages), .int .i64 ((sR hh).start), .int .i64 ((sR hh).len), .int .i64 ((sR hh).head), .int .i64 ((sR hh).seq), .int .i64 ((aa + (1 + ((opImgs (rgN m) 5 (i : Int)).length : Int))) % (sR hh).len), .int .i64 (q + 1), .int .i64 (u + (1 + ((opImgs (rgN m) 5 (i : Int)).length : Int))), .bool false, .bool (decide ((sR hh).epoch < 4294967296))] 73 :: tblA pt :: diskA pd (appD D (sR hh) aa k (recB (sR hh).epoch q (opImgs (rgN m) 5 (i : Int)))) :: poolA hqi2 :: grow 3 1 (.slice ao1 m c1) m ((rgN m).map (Value.int .i64)) :: blk b3 [.int .i64 0, .slice ao1 m c1, .int .i64 5, .int .i64 (i : Int), .int .i64 0, .int .i64 0, .slice none 0 0] 39 :: A :: R) w := H'
          clear H'
          refine s_do rfl rfl rfl (d_move rfl rfl) ?_
          refine s_do rfl rfl rfl (d_extract rfl rfl rfl) ?_
          refine s_do rfl rfl rfl (d_extract rfl rfl rfl) ?_
          refine s_do rfl rfl rfl (d_assign rfl rfl) ?_
          refine s_do rfl rfl rfl (d_assign rfl rfl) ?_
          refine s_end ?_
          refine k_seq ?_
          refine s_region ?_
          refine s_do rfl rfl rfl (d_move rfl rfl) ?_
          refine s_callC rfl rfl rfl rfl rfl (fun w => Tryd.call13 _ w) (room_c _ _ _ _ _ _ _ _ _ (by omega)) H 1 [0] rfl rfl ?_
          rintro _ w _ ⟨rfl, rfl⟩ H'
          have H : Sep z (blk pl [.pointer (some ⟨pd, 0, none⟩), .pointer (some ⟨pt, 0, none⟩), .int .i64 ((sR hh).gen), .int .i64 ((sR hh).epoch), .int .i64 ((sR hh).pages), .int .i64 ((sR hh).start), .int .i64 ((sR hh).len), .int .i64 ((sR hh).head), .int .i64 ((sR hh).seq), .int .i64 ((aa + (1 + ((opImgs (rgN m) 5 (i : Int)).length : Int))) % (sR hh).len), .int .i64 (q + 1), .int .i64 (u + (1 + ((opImgs (rgN m) 5 (i : Int)).length : Int))), .bool false, .bool (decide ((sR hh).epoch < 4294967296))] 73 :: tblA pt :: diskA pd (appD D (sR hh) aa k (recB (sR hh).epoch q (opImgs (rgN m) 5 (i : Int)))) :: poolA hqi2 :: grow 3 1 (.slice ao1 m c1) m ((rgN m).map (Value.int .i64)) :: blk b3 [.int .i64 0, .slice ao1 m c1, .int .i64 5, .int .i64 (i : Int), .int .i64 0, .int .i64 0, .slice none 0 0] 39 :: A :: R) w := H'
          clear H'
          refine s_do rfl rfl rfl (d_move rfl rfl) ?_
          refine s_do rfl rfl rfl (d_neq rfl rfl rfl) ?_
          refine s_do rfl rfl rfl (d_move rfl rfl) ?_
          refine s_part 119 rfl (fun h17 => ?_) (fun h17 => ?_)
          · (rw [if_neg (by decide)] at h17; exfalso; omega)
          · -- no: (if false then 0 else (sR hh).len - (u + (1 + ((opImgs (rgN m) 5 (i : Int)).length : Int)))) ≠ (((64 - u) - (m : Int)) - 1)
            refine s_do rfl rfl rfl (d_move rfl rfl) ?_
            refine s_do rfl rfl rfl (d_move rfl rfl) ?_
            refine s_do rfl rfl rfl (d_neq rfl rfl rfl) ?_
            refine s_do rfl rfl rfl (d_pick_f rfl rfl rfl) ?_
            refine s_do rfl rfl rfl (d_move rfl rfl) ?_
            refine s_part 124 rfl (fun h18 => ?_) (fun h18 => ?_)
            · (rw [hsR.2.2.2.2.1] at h18; exfalso; omega)
            · -- no: ((aa + (1 + ((opImgs (rgN m) 5 (i : Int)).length : Int))) % (sR hh).len) ≠ (((aa + (m : Int)) + 1) % 64)
              refine s_do rfl rfl rfl (d_move rfl rfl) ?_
              refine s_do rfl rfl rfl (d_move rfl rfl) ?_
              refine s_do rfl rfl rfl (d_neq rfl rfl rfl) ?_
              refine s_do rfl rfl rfl (d_pick_f rfl rfl rfl) ?_
              refine s_end ?_
              refine k_dec rfl (fun h19 => ?_) (fun h19 => ?_)
              · exact absurd rfl h19
              · -- no: (q + 1 : Int) ≠ (q + 1)
                refine k_skip ?_
                refine s_region ?_
                refine s_do rfl rfl rfl (d_move rfl rfl) ?_
                refine s_do rfl rfl rfl (d_add64 rfl rfl rfl (r := (i : Int) + 1) (by omega) (by omega)) ?_
                refine s_do rfl rfl rfl (d_assign rfl rfl) ?_
                refine s_end ?_
                have H' := H.pick 7 [0, 2, 1, 6] rfl
                have H : Sep z (blk pl [.pointer (some ⟨pd, 0, none⟩), .pointer (some ⟨pt, 0, none⟩), .int .i64 ((sR hh).gen), .int .i64 ((sR hh).epoch), .int .i64 ((sR hh).pages), .int .i64 ((sR hh).start), .int .i64 ((sR hh).len), .int .i64 ((sR hh).head), .int .i64 ((sR hh).seq), .int .i64 ((aa + (1 + ((opImgs (rgN m) 5 (i : Int)).length : Int))) % (sR hh).len), .int .i64 (q + 1), .int .i64 (u + (1 + ((opImgs (rgN m) 5 (i : Int)).length : Int))), .bool false, .bool (decide ((sR hh).epoch < 4294967296))] 73 :: diskA pd (appD D (sR hh) aa k (recB (sR hh).epoch q (opImgs (rgN m) 5 (i : Int)))) :: tblA pt :: A :: R) w := H'
                clear H'
                intro _ hF
                refine ⟨⟨i + 1, (appD D (sR hh) aa k (recB (sR hh).epoch q (opImgs (rgN m) 5 (i : Int)))), (aa + (1 + ((opImgs (rgN m) 5 (i : Int)).length : Int))) % (sR hh).len, q + 1, u + (1 + ((opImgs (rgN m) 5 (i : Int)).length : Int))⟩, (hF.cons (hF.cons (hF.cons (hF.cons (hF.cons (hF.cons hF.nil 9 _ _ rfl rfl) 0 _ _ rfl rfl) 8 _ _ rfl (congrArg (Value.int .i64) (by dsimp only; rw [hsR.2.2.2.2.1]; omega))) 11 _ _ rfl rfl) 10 _ _ rfl (congrArg (Value.int .i64) (by dsimp only; omega))) 12 _ _ rfl (by go_num)), ⟨H, ?_⟩, ?_⟩
                · have hm1 := Int.emod_nonneg (aa + (1 + ((opImgs (rgN m) 5 (i : Int)).length : Int))) (by omega : (sR hh).len ≠ 0)
                  have hm2 := Int.emod_lt_of_pos (aa + (1 + ((opImgs (rgN m) 5 (i : Int)).length : Int))) (by omega : 0 < (sR hh).len)
                  exact ⟨by omega, hcl.app _ _ _ _ |>.le (by omega), (app_n _ _ _ _ _).trans hDn, by dsimp only; omega, by dsimp only; omega, by have h1 := hroom.1; rw [if_neg (by decide)] at h1; dsimp only; omega⟩
                · (dsimp only; omega)
    · -- no: (i : Int) < (ns.length : Int)
      refine k_exit ?_
      refine k_here ?_
      refine k_seq ?_
      refine s_region ?_
      refine s_do rfl rfl rfl (d_assign rfl rfl) ?_
      refine s_end ?_
      refine k_ret ?_
      refine doneL rfl [.bool true] ⟨rfl, trivial⟩ (v := .bool true) rfl ?_
      exact ⟨[A], ⟨rfl, rfl⟩, H.perm 4 [3] rfl rfl⟩
end Go.Proofs.YtanejicgmgpjcaaDoor
