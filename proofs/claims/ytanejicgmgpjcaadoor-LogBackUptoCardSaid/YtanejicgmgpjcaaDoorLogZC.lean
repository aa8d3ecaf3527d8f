/-
  Walks: the law LogBack. No condition.
-/
import Derived.Test.YtanejicgmgpjcaaDoorLogZB
set_option maxRecDepth 100000
namespace Go.Proofs.YtanejicgmgpjcaaDoor
open Go.RowKit
set_option maxHeartbeats 4000000 in
theorem logBack_c (hd : Int) (v : Value) (es : List OpE) (hes : es.length ≤ 1000000000) (A : Asn) (hA : ∀ h, A h → rdH 7 v es.length (opC es) h ∧ opsOk es h) : Cn Tryd.prog 3 [.int .i64 hd, v] [A] (fun v Γ => v = .bool true ∧ Γ = [A]) := by
  intro z R w H'
  have H : Sep z (A :: R) w := H'
  clear H'
  obtain ⟨ao, oc, rfl⟩ := H.says 0 rfl (fun h q => (hA h q).1.slc)
  refine enter Tryd.func3 rfl 128 Tryd.ntmps3 rfl ?_
  refine k_seq ?_
  refine s_region ?_
  refine s_do rfl rfl rfl (d_assign rfl rfl) ?_
  refine s_end ?_
  refine k_seq ?_
  refine s_region ?_
  refine s_callC rfl rfl rfl rfl rfl (fun w => Tryd.call5 _ w) (crcnew_c ) H 0 [] rfl rfl ?_
  rintro _ w _ ⟨pt, rfl, rfl⟩ H'
  have H : Sep z (tblA pt :: A :: R) w := H'
  clear H'
  refine s_do rfl rfl rfl (d_assign rfl rfl) ?_
  refine s_end ?_
  refine k_seq ?_
  refine s_region ?_
  refine s_callC rfl rfl rfl rfl rfl (fun w => Tryd.call6 _ w) (dnew_c 100) H 0 [] rfl rfl ?_
  rintro _ w _ (⟨hn, rfl, rfl⟩ | ⟨_, pd, rfl, rfl⟩) H'
  · exact absurd (by omega) hn
  · -- a case
    have H : Sep z (diskA pd (newD 100) :: tblA pt :: A :: R) w := H'
    clear H'
    refine s_do rfl rfl rfl (d_move rfl rfl) ?_
    refine s_do rfl rfl rfl (d_extract rfl rfl rfl) ?_
    refine s_do rfl rfl rfl (d_extract rfl rfl rfl) ?_
    refine s_do rfl rfl rfl (d_assign rfl rfl) ?_
    refine s_do rfl rfl rfl (d_assign rfl rfl) ?_
    refine s_end ?_
    refine k_seq ?_
    refine k_seq ?_
    refine s_region ?_
    refine s_do rfl rfl rfl (d_move rfl rfl) ?_
    refine s_do rfl rfl rfl (d_neq rfl rfl rfl) ?_
    refine k_updA 26 (u := .bool (decide ((0 : Int) ≠ 0))) (v := .bool false) rfl (congrArg Value.bool (by decide)) ?_
    refine s_do rfl rfl rfl (d_move rfl rfl) ?_
    refine s_do rfl rfl rfl (d_move rfl rfl) ?_
    refine s_do rfl rfl rfl (d_eql_pn rfl (by kernel_rfl) rfl rfl) ?_
    refine s_do rfl rfl rfl (d_pick_f rfl rfl rfl) ?_
    refine s_do rfl rfl rfl (d_move rfl rfl) ?_
    refine s_do rfl rfl rfl (d_move rfl rfl) ?_
    refine s_callC rfl rfl rfl rfl rfl (fun w => Tryd.call7 _ w) (known_c _) H 2 [1, 0] rfl rfl ?_
    rintro _ w _ ⟨rfl, rfl⟩ H'
    have H : Sep z (tblA pt :: diskA pd (newD 100) :: A :: R) w := H'
    clear H'
    refine s_do rfl rfl rfl (d_not rfl rfl) ?_
    refine s_do rfl rfl rfl (d_pick_f rfl rfl rfl) ?_
    refine s_end ?_
    refine k_false rfl ?_
    refine k_skip ?_
    refine k_seq ?_
    refine s_region ?_
    refine s_do rfl rfl rfl (d_move rfl rfl) ?_
    refine s_do rfl rfl rfl (d_rem rfl rfl rfl (by decide)) ?_
    refine s_do rfl rfl rfl (d_assign rfl rfl) ?_
    refine s_end ?_
    refine k_cut (fun a w => ∃ (hh : Int), Fr 128 [] [(8, .int .i64 hh), (0, .int .i64 hd), (1, .slice ao es.length oc), (4, .bool false), (5, .pointer (some ⟨pt, 0, none⟩)), (6, .pointer (some ⟨pd, 0, none⟩)), (7, .int .i64 0), (20, .pointer (some ⟨pt, 0, none⟩)), (21, .tuple #[.pointer (some ⟨pd, 0, none⟩), .int .i64 0]), (22, .tuple #[.pointer (some ⟨pd, 0, none⟩), .int .i64 0]), (23, .pointer (some ⟨pd, 0, none⟩)), (24, .int .i64 0), (25, .int .i64 0), (26, .bool false), (27, .bool false), (28, .pointer (some ⟨pd, 0, none⟩)), (29, .bool false), (30, .bool false), (31, .bool false), (32, .pointer (some ⟨pt, 0, none⟩)), (33, .bool true), (34, .bool false), (35, .bool false), (36, .int .i64 hd), (37, .int .i64 (hd.tmod 64))] a ∧ Sep z (tblA pt :: diskA pd (newD 100) :: A :: R) w ∧ (0 ≤ hh ∧ hh < 64)) ?_ ?_
    · -- 6
      refine k_seq ?_
      have hm1 := Int.tmod_lt_of_pos hd (by decide : (0 : Int) < 64)
      have hm2 := Int.lt_tmod_of_pos hd (by decide : (0 : Int) < 64)
      refine s_region ?_
      refine s_do rfl rfl rfl (d_move rfl rfl) ?_
      refine s_do rfl rfl rfl (d_lss rfl rfl rfl) ?_
      refine s_end ?_
      refine k_dec rfl (fun h1 => ?_) (fun h1 => ?_)
      · -- yes: (hd.tmod 64 : Int) < 0
        refine s_region ?_
        refine s_do rfl rfl rfl (d_move rfl rfl) ?_
        refine s_do rfl rfl rfl (d_add64 rfl rfl rfl (r := (hd.tmod 64) + 64) (by omega) (by omega)) ?_
        refine s_do rfl rfl rfl (d_assign rfl rfl) ?_
        refine s_end ?_
        exact fun _ hF => ⟨((hd.tmod 64) + 64), (hF.cons (hF.cons (hF.cons (hF.cons (hF.cons (hF.cons (hF.cons (hF.cons (hF.cons (hF.cons (hF.cons (hF.cons (hF.cons (hF.cons (hF.cons (hF.cons (hF.cons (hF.cons (hF.cons (hF.cons (hF.cons (hF.cons (hF.cons (hF.cons (hF.cons hF.nil 37 _ _ rfl rfl) 36 _ _ rfl rfl) 35 _ _ rfl rfl) 34 _ _ rfl rfl) 33 _ _ rfl rfl) 32 _ _ rfl rfl) 31 _ _ rfl rfl) 30 _ _ rfl rfl) 29 _ _ rfl rfl) 28 _ _ rfl rfl) 27 _ _ rfl rfl) 26 _ _ rfl rfl) 25 _ _ rfl rfl) 24 _ _ rfl rfl) 23 _ _ rfl rfl) 22 _ _ rfl rfl) 21 _ _ rfl rfl) 20 _ _ rfl rfl) 7 _ _ rfl rfl) 6 _ _ rfl rfl) 5 _ _ rfl rfl) 4 _ _ rfl rfl) 1 _ _ rfl rfl) 0 _ _ rfl rfl) 8 _ _ rfl rfl), H, (by omega)⟩
      · -- no: (hd.tmod 64 : Int) < 0
        refine k_skip ?_
        exact fun _ hF => ⟨(hd.tmod 64), (hF.cons (hF.cons (hF.cons (hF.cons (hF.cons (hF.cons (hF.cons (hF.cons (hF.cons (hF.cons (hF.cons (hF.cons (hF.cons (hF.cons (hF.cons (hF.cons (hF.cons (hF.cons (hF.cons (hF.cons (hF.cons (hF.cons (hF.cons (hF.cons (hF.cons hF.nil 37 _ _ rfl rfl) 36 _ _ rfl rfl) 35 _ _ rfl rfl) 34 _ _ rfl rfl) 33 _ _ rfl rfl) 32 _ _ rfl rfl) 31 _ _ rfl rfl) 30 _ _ rfl rfl) 29 _ _ rfl rfl) 28 _ _ rfl rfl) 27 _ _ rfl rfl) 26 _ _ rfl rfl) 25 _ _ rfl rfl) 24 _ _ rfl rfl) 23 _ _ rfl rfl) 22 _ _ rfl rfl) 21 _ _ rfl rfl) 20 _ _ rfl rfl) 7 _ _ rfl rfl) 6 _ _ rfl rfl) 5 _ _ rfl rfl) 4 _ _ rfl rfl) 1 _ _ rfl rfl) 0 _ _ rfl rfl) 8 _ _ rfl rfl), H, (by omega)⟩
    rintro a w ⟨hh, hF, H, hI⟩
    revert a
    refine k_seq ?_
    have hsB := sB_f hh
    have hok : (sB hh).Ok (100 : Int) := Sup.ok_of (by omega) rfl rfl rfl rfl (by omega) (by omega) rfl
    refine s_region ?_
    refine s_do rfl rfl rfl (d_move rfl rfl) ?_
    refine s_do rfl rfl rfl (d_build rfl rfl (out := [.int .i64 1, .int .i64 1, .int .i64 16, .int .i64 18, .int .i64 64, .int .i64 hh, .int .i64 9]) (by kernel_rfl)) ?_
    refine s_go rfl rfl rfl (n_alloc (P := Tryd.prog) H rfl (zs := [.int .i64 0, .int .i64 0, .int .i64 0, .int .i64 0, .int .i64 0, .int .i64 0, .int .i64 0]) (by kernel_rfl)) ?_
    rintro _ w ⟨b1, rfl, H'⟩
    have H : Sep z (blk b1 [.int .i64 0, .int .i64 0, .int .i64 0, .int .i64 0, .int .i64 0, .int .i64 0, .int .i64 0] 31 :: tblA pt :: diskA pd (newD 100) :: A :: R) w := H'
    clear H'
    refine s_put rfl rfl (n_store 0 H rfl rfl rfl rfl (vs := [.int .i64 1, .int .i64 1, .int .i64 16, .int .i64 18, .int .i64 64, .int .i64 hh, .int .i64 9]) rfl (by simp [u8, u32, Value.oneCell']) (by kernel_rfl) (by simp) (out := [.int .i64 1, .int .i64 1, .int .i64 16, .int .i64 18, .int .i64 64, .int .i64 hh, .int .i64 9]) rfl) ?_
    rintro w H'
    have H : Sep z (blk b1 [.int .i64 1, .int .i64 1, .int .i64 16, .int .i64 18, .int .i64 64, .int .i64 hh, .int .i64 9] 31 :: tblA pt :: diskA pd (newD 100) :: A :: R) w := H'
    clear H'
    refine s_end ?_
    refine k_seq ?_
    refine s_region ?_
    refine s_do rfl rfl rfl (d_move rfl rfl) ?_
    refine s_do rfl rfl rfl (d_move rfl rfl) ?_
    refine s_do rfl rfl rfl (d_loadAgg rfl rfl (vs := [.int .i64 1, .int .i64 1, .int .i64 16, .int .i64 18, .int .i64 64, .int .i64 hh, .int .i64 9]) (by kernel_rfl) (here ((H.blk 0 rfl).part 0 7 _ rfl))) ?_
    refine s_callC rfl rfl rfl rfl rfl (fun w => Tryd.call8 _ w) (lnewD_c _ _ _ (sB hh) hok) H 3 [2, 0, 1] rfl rfl ?_
    rintro _ w _ ⟨pl, rfl, rfl⟩ H'
    have H : Sep z (blk pl [.pointer (some ⟨pd, 0, none⟩), .pointer (some ⟨pt, 0, none⟩), .int .i64 ((sB hh).gen), .int .i64 ((sB hh).epoch), .int .i64 ((sB hh).pages), .int .i64 ((sB hh).start), .int .i64 ((sB hh).len), .int .i64 ((sB hh).head), .int .i64 ((sB hh).seq), .int .i64 ((sB hh).head), .int .i64 ((sB hh).seq), .int .i64 0, .bool false, .bool (decide ((sB hh).epoch < 4294967296))] 73 :: diskA pd (newD 100) :: blk b1 [.int .i64 1, .int .i64 1, .int .i64 16, .int .i64 18, .int .i64 64, .int .i64 hh, .int .i64 9] 31 :: tblA pt :: A :: R) w := H'
    clear H'
    refine s_do rfl rfl rfl (d_assign rfl rfl) ?_
    refine s_end ?_
    refine k_seq ?_
    refine k_seq ?_
    refine s_region ?_
    refine s_do rfl rfl rfl (d_move rfl rfl) ?_
    refine s_do rfl rfl rfl (d_eql_pn rfl (by kernel_rfl) rfl rfl) ?_
    refine s_end ?_
    refine k_false rfl ?_
    refine k_skip ?_
    refine k_seq ?_
    refine s_region ?_
    refine s_do rfl rfl rfl (d_assign rfl rfl) ?_
    refine s_end ?_
    refine k_seq ?_
    refine k_seq ?_
    have H' := H.nilg 42 2
    have H : Sep z (grow 42 2 (.slice none 0 0) 0 [] :: blk pl [.pointer (some ⟨pd, 0, none⟩), .pointer (some ⟨pt, 0, none⟩), .int .i64 ((sB hh).gen), .int .i64 ((sB hh).epoch), .int .i64 ((sB hh).pages), .int .i64 ((sB hh).start), .int .i64 ((sB hh).len), .int .i64 ((sB hh).head), .int .i64 ((sB hh).seq), .int .i64 ((sB hh).head), .int .i64 ((sB hh).seq), .int .i64 0, .bool false, .bool (decide ((sB hh).epoch < 4294967296))] 73 :: diskA pd (newD 100) :: blk b1 [.int .i64 1, .int .i64 1, .int .i64 16, .int .i64 18, .int .i64 64, .int .i64 hh, .int .i64 9] 31 :: tblA pt :: A :: R) w := H'
    clear H'
    have H' := pool0 H
    have H : Sep z (poolA (fun _ => none) :: grow 42 2 (.slice none 0 0) 0 [] :: blk pl [.pointer (some ⟨pd, 0, none⟩), .pointer (some ⟨pt, 0, none⟩), .int .i64 ((sB hh).gen), .int .i64 ((sB hh).epoch), .int .i64 ((sB hh).pages), .int .i64 ((sB hh).start), .int .i64 ((sB hh).len), .int .i64 ((sB hh).head), .int .i64 ((sB hh).seq), .int .i64 ((sB hh).head), .int .i64 ((sB hh).seq), .int .i64 0, .bool false, .bool (decide ((sB hh).epoch < 4294967296))] 73 :: diskA pd (newD 100) :: blk b1 [.int .i64 1, .int .i64 1, .int .i64 16, .int .i64 18, .int .i64 64, .int .i64 hh, .int .i64 9] 31 :: tblA pt :: A :: R) w := H'
    clear H'
    refine s_region ?_
    refine s_do rfl rfl rfl (d_assign rfl rfl) ?_
    refine s_end ?_
    refine k_block ?_
    refine c_loop (σ := Nat × List RcE × Value × Dsk × Int × Int × Int × Hp) (fun ⟨i, rl, v, D, a, q, u, hq⟩ => [(12, .int .i64 (i : Int)), (11, v), (1, .slice ao es.length oc), (4, .bool false), (5, .pointer (some ⟨pt, 0, none⟩)), (6, .pointer (some ⟨pd, 0, none⟩)), (9, .pointer (some ⟨b1, 0, none⟩)), (10, .pointer (some ⟨pl, 0, none⟩))])
      (fun ⟨i, rl, v, D, a, q, u, hq⟩ w => Sep z (poolA hq :: grow 42 2 v rl.length (rcC rl) :: blk pl [.pointer (some ⟨pd, 0, none⟩), .pointer (some ⟨pt, 0, none⟩), .int .i64 ((sB hh).gen), .int .i64 ((sB hh).epoch), .int .i64 ((sB hh).pages), .int .i64 ((sB hh).start), .int .i64 ((sB hh).len), .int .i64 ((sB hh).head), .int .i64 ((sB hh).seq), .int .i64 a, .int .i64 q, .int .i64 u, .bool false, .bool (decide ((sB hh).epoch < 4294967296))] 73 :: diskA pd D :: blk b1 [.int .i64 1, .int .i64 1, .int .i64 16, .int .i64 18, .int .i64 64, .int .i64 hh, .int .i64 9] 31 :: tblA pt :: A :: R) w ∧ (i ≤ es.length ∧ LogInv D (sB hh) (rl.map Prod.fst) a q u ∧ Cln D (2 * i) ∧ D.n = 100 ∧ rcesOk rl hq ∧ rl.length ≤ i)) (fun ⟨i, rl, v, D, a, q, u, hq⟩ => es.length - i) ⟨0, [], .slice none 0 0, newD 100, (sB hh).head, (sB hh).seq, 0, (fun _ => none)⟩
      (fun _ hF => (hF.cons (hF.cons (hF.cons (hF.cons (hF.cons (hF.cons (hF.cons (hF.cons hF.nil 10 _ _ rfl rfl) 9 _ _ rfl rfl) 6 _ _ rfl rfl) 5 _ _ rfl rfl) 4 _ _ rfl rfl) 1 _ _ rfl rfl) 11 _ _ rfl (by go_num)) 12 _ _ rfl (by go_num))) ⟨H, by omega, LogInv.new, newD_cln 100, rfl, fun e he => absurd he (by simp), by simp⟩ ?_
    clear H; rintro ⟨i, rl, v, D, a, q, u, hq⟩ w ⟨H', hI⟩
    dsimp only at hI H' ⊢
    have H : Sep z (poolA hq :: grow 42 2 v rl.length (rcC rl) :: blk pl [.pointer (some ⟨pd, 0, none⟩), .pointer (some ⟨pt, 0, none⟩), .int .i64 ((sB hh).gen), .int .i64 ((sB hh).epoch), .int .i64 ((sB hh).pages), .int .i64 ((sB hh).start), .int .i64 ((sB hh).len), .int .i64 ((sB hh).head), .int .i64 ((sB hh).seq), .int .i64 a, .int .i64 q, .int .i64 u, .bool false, .bool (decide ((sB hh).epoch < 4294967296))] 73 :: diskA pd D :: blk b1 [.int .i64 1, .int .i64 1, .int .i64 16, .int .i64 18, .int .i64 64, .int .i64 hh, .int .i64 9] 31 :: tblA pt :: A :: R) w := H'
    clear H'
    have sv := H.says 1 rfl (fun h q => q.slc)
    obtain ⟨hin, hinv, hcl, hDn, hrk, hrl⟩ := hI
    refine k_seq ?_
    refine k_seq ?_
    refine s_region ?_
    refine s_do rfl rfl rfl (d_move rfl rfl) ?_
    refine s_do rfl rfl rfl (d_move rfl rfl) ?_
    refine s_do rfl rfl rfl (d_len rfl (z := 7) (by kernel_rfl) rfl) ?_
    refine s_do rfl rfl rfl (d_lss rfl rfl rfl) ?_
    refine s_end ?_
    refine k_dec rfl (fun h2 => ?_) (fun h2 => ?_)
    · -- yes: (i : Int) < (es.length : Int)
      have hlt : i < es.length := by omega
      refine k_skip ?_
      refine k_seq ?_
      refine k_block ?_
      refine k_seq ?_
      refine s_region ?_
      obtain ⟨⟨om, pv, kv⟩, he⟩ : ∃ e : OpE, es[i]? = some e := ⟨_, List.getElem?_eq_getElem (by omega)⟩
      have hopi := H.says 6 rfl (fun h q => ((hA h q).2 _ (List.mem_of_getElem? he)).2)
      have hat := (H.rd 6 rfl (fun h q => (hA h q).1)).at (opC_get he 0 _ rfl)
      have hpos := hinv.runs.pos (by omega)
      have hrll : (rl.map Prod.fst).length = rl.length := by simp
      have hpa : 0 ≤ a ∧ a < (sB hh).len := by rw [hpos.1]; exact ⟨Int.emod_nonneg _ (by omega), Int.emod_lt_of_pos _ (by omega)⟩
      refine s_do rfl rfl rfl (d_move rfl rfl) ?_
      refine s_do rfl rfl rfl (d_move rfl rfl) ?_
      refine s_do rfl rfl rfl (d_move rfl rfl) ?_
      refine s_do rfl rfl rfl (d_indexE rfl (z := 7) (j := i) (r := i * 7) (by kernel_rfl) rfl rfl rfl (by omega) hat (by omega)) ?_
      refine s_do rfl rfl rfl (d_loadAggE rfl rfl (vs := [.int .i64 om.k0, pv, .int .i64 om.kd, .int .i64 om.fl, .int .i64 om.k4, .int .i64 om.k5, kv]) (by kernel_rfl) (by simp) (here (fun k u hk => (H.rd 6 rfl (fun h q => (hA h q).1)).at (opC_get he k u hk)))) ?_
      refine s_callC rfl rfl rfl rfl rfl (fun w => Tryd.call10 _ w) (images_c _ _ _ _ _ _ _ om.ns _ (fun h q => ((hA h q).2 _ (List.mem_of_getElem? he)).1) hopi.1 hopi.2) H 7 [6, 0, 1, 2, 3, 4, 5] rfl rfl ?_
      rintro v1 w _ ⟨hqi1, him1, rfl⟩ H'
      have H : Sep z (poolA hqi1 :: A :: poolA hq :: grow 42 2 v rl.length (rcC rl) :: blk pl [.pointer (some ⟨pd, 0, none⟩), .pointer (some ⟨pt, 0, none⟩), .int .i64 ((sB hh).gen), .int .i64 ((sB hh).epoch), .int .i64 ((sB hh).pages), .int .i64 ((sB hh).start), .int .i64 ((sB hh).len), .int .i64 ((sB hh).head), .int .i64 ((sB hh).seq), .int .i64 a, .int .i64 q, .int .i64 u, .bool false, .bool (decide ((sB hh).epoch < 4294967296))] 73 :: diskA pd D :: blk b1 [.int .i64 1, .int .i64 1, .int .i64 16, .int .i64 18, .int .i64 64, .int .i64 hh, .int .i64 9] 31 :: tblA pt :: R) w := H'
      clear H'
      have sv1 : Slc v1 (opImgs om.ns om.kd om.fl).length := by obtain ⟨ao, c, e⟩ := him1.slc; exact ⟨ao, c, e⟩
      refine s_callC rfl rfl rfl rfl rfl (fun w => Tryd.call9 _ w) (appendS_c _ _ _ _ _ _ _ _ _ _ (opImgs om.ns om.kd om.fl) _ (fun h q => him1.le q) _ (2 * i) hcl (by omega) (by rw [hDn]; exact hok) rfl hpa (by omega) (by omega)) H 8 [4, 7, 5, 0, 1, 2, 3, 6] rfl rfl ?_
      rintro _ w _ (⟨c, hcode, rfl, rfl⟩ | ⟨hl, hrec, hroom, k, hk, rfl, rfl⟩) H'
      · -- a case
        have H : Sep z (blk pl [.pointer (some ⟨pd, 0, none⟩), .pointer (some ⟨pt, 0, none⟩), .int .i64 ((sB hh).gen), .int .i64 ((sB hh).epoch), .int .i64 ((sB hh).pages), .int .i64 ((sB hh).start), .int .i64 ((sB hh).len), .int .i64 ((sB hh).head), .int .i64 ((sB hh).seq), .int .i64 a, .int .i64 q, .int .i64 u, .bool false, .bool (decide ((sB hh).epoch < 4294967296))] 73 :: tblA pt :: diskA pd D :: poolA hqi1 :: A :: poolA hq :: grow 42 2 v rl.length (rcC rl) :: blk b1 [.int .i64 1, .int .i64 1, .int .i64 16, .int .i64 18, .int .i64 64, .int .i64 hh, .int .i64 9] 31 :: R) w := H'
        clear H'
        have hcne := hcode.ne
        refine s_do rfl rfl rfl (d_eql rfl rfl rfl) ?_
        refine s_end ?_
        refine k_dec rfl (fun h3 => ?_) (fun h3 => ?_)
        · exact absurd h3 hcne
        · -- no: (c : Int) = 0
          refine k_skip ?_
          refine s_region ?_
          refine s_do rfl rfl rfl (d_move rfl rfl) ?_
          refine s_do rfl rfl rfl (d_add64 rfl rfl rfl (r := (i : Int) + 1) (by omega) (by omega)) ?_
          refine s_do rfl rfl rfl (d_assign rfl rfl) ?_
          refine s_end ?_
          have H' := H.pick 8 [5, 6, 0, 2, 7, 1, 4] rfl
          have H : Sep z (poolA hq :: grow 42 2 v rl.length (rcC rl) :: blk pl [.pointer (some ⟨pd, 0, none⟩), .pointer (some ⟨pt, 0, none⟩), .int .i64 ((sB hh).gen), .int .i64 ((sB hh).epoch), .int .i64 ((sB hh).pages), .int .i64 ((sB hh).start), .int .i64 ((sB hh).len), .int .i64 ((sB hh).head), .int .i64 ((sB hh).seq), .int .i64 a, .int .i64 q, .int .i64 u, .bool false, .bool (decide ((sB hh).epoch < 4294967296))] 73 :: diskA pd D :: blk b1 [.int .i64 1, .int .i64 1, .int .i64 16, .int .i64 18, .int .i64 64, .int .i64 hh, .int .i64 9] 31 :: tblA pt :: A :: R) w := H'
          clear H'
          intro _ hF
          refine ⟨⟨i + 1, rl, v, D, a, q, u, hq⟩, (hF.cons (hF.cons (hF.cons (hF.cons (hF.cons (hF.cons (hF.cons (hF.cons hF.nil 10 _ _ rfl rfl) 9 _ _ rfl rfl) 6 _ _ rfl rfl) 5 _ _ rfl rfl) 4 _ _ rfl rfl) 1 _ _ rfl rfl) 11 _ _ rfl rfl) 12 _ _ rfl (by go_num)), ⟨H, ?_⟩, ?_⟩
          · exact ⟨by omega, hinv, hcl.le (by omega), hDn, hrk, by dsimp only; omega⟩
          · (dsimp only; omega)
      · -- a case
        have H : Sep z (blk pl [.pointer (some ⟨pd, 0, none⟩), .pointer (some ⟨pt, 0, none⟩), .int .i64 ((sB hh).gen), .int .i64 ((sB hh).epoch), .int .i64 ((sB hh).pages), .int .i64 ((sB hh).start), .int .i64 ((sB hh).len), .int .i64 ((sB hh).head), .int .i64 ((sB hh).seq), .int .i64 ((a + (1 + ((opImgs om.ns om.kd om.fl).length : Int))) % (sB hh).len), .int .i64 (q + 1), .int .i64 (u + (1 + ((opImgs om.ns om.kd om.fl).length : Int))), .bool false, .bool (decide ((sB hh).epoch < 4294967296))] 73 :: tblA pt :: diskA pd (appD D (sB hh) a k (recB (sB hh).epoch q (opImgs om.ns om.kd om.fl))) :: poolA hqi1 :: A :: poolA hq :: grow 42 2 v rl.length (rcC rl) :: blk b1 [.int .i64 1, .int .i64 1, .int .i64 16, .int .i64 18, .int .i64 64, .int .i64 hh, .int .i64 9] 31 :: R) w := H'
        clear H'
        refine s_do rfl rfl rfl (d_eql rfl rfl rfl) ?_
        refine k_updA 63 (u := .bool (decide ((0 : Int) = 0))) (v := .bool true) rfl (congrArg Value.bool (by decide)) ?_
        refine s_end ?_
        refine k_true rfl ?_
        refine s_region ?_
        refine s_do rfl rfl rfl (d_move rfl rfl) ?_
        refine s_do rfl rfl rfl (d_move rfl rfl) ?_
        refine s_do rfl rfl rfl (d_lenV rfl (sz := 2) (by kernel_rfl) rfl sv) ?_
        refine s_do rfl rfl rfl (d_add64 rfl rfl rfl (r := q) (by omega) (by omega)) ?_
        refine s_do rfl rfl rfl (d_move rfl rfl) ?_
        refine s_do rfl rfl rfl (d_move rfl rfl) ?_
        refine s_do rfl rfl rfl (d_indexE rfl (z := 7) (j := i) (r := i * 7) (by kernel_rfl) rfl rfl rfl (by omega) hat (by omega)) ?_
        refine s_do rfl rfl rfl (d_loadAggE rfl rfl (vs := [.int .i64 om.k0, pv, .int .i64 om.kd, .int .i64 om.fl, .int .i64 om.k4, .int .i64 om.k5, kv]) (by kernel_rfl) (by simp) (here (fun k u hk => (H.rd 4 rfl (fun h q => (hA h q).1)).at (opC_get he k u hk)))) ?_
        refine s_callC rfl rfl rfl rfl rfl (fun w => Tryd.call10 _ w) (images_c _ _ _ _ _ _ _ om.ns _ (fun h q => ((hA h q).2 _ (List.mem_of_getElem? he)).1) hopi.1 hopi.2) H 5 [4, 0, 1, 2, 3] rfl rfl ?_
        rintro v2 w _ ⟨hqi2, him2, rfl⟩ H'
        have H : Sep z (poolA hqi2 :: A :: blk pl [.pointer (some ⟨pd, 0, none⟩), .pointer (some ⟨pt, 0, none⟩), .int .i64 ((sB hh).gen), .int .i64 ((sB hh).epoch), .int .i64 ((sB hh).pages), .int .i64 ((sB hh).start), .int .i64 ((sB hh).len), .int .i64 ((sB hh).head), .int .i64 ((sB hh).seq), .int .i64 ((a + (1 + ((opImgs om.ns om.kd om.fl).length : Int))) % (sB hh).len), .int .i64 (q + 1), .int .i64 (u + (1 + ((opImgs om.ns om.kd om.fl).length : Int))), .bool false, .bool (decide ((sB hh).epoch < 4294967296))] 73 :: tblA pt :: diskA pd (appD D (sB hh) a k (recB (sB hh).epoch q (opImgs om.ns om.kd om.fl))) :: poolA hqi1 :: poolA hq :: grow 42 2 v rl.length (rcC rl) :: blk b1 [.int .i64 1, .int .i64 1, .int .i64 16, .int .i64 18, .int .i64 64, .int .i64 hh, .int .i64 9] 31 :: R) w := H'
        clear H'
        have sv2 : Slc v2 (opImgs om.ns om.kd om.fl).length := by obtain ⟨ao, c, e⟩ := him2.slc; exact ⟨ao, c, e⟩
        have H' := H.pick 9 [6, 0, 1, 2, 3, 4, 5, 7, 8] rfl
        have H : Sep z (poolA hq :: poolA hqi2 :: A :: blk pl [.pointer (some ⟨pd, 0, none⟩), .pointer (some ⟨pt, 0, none⟩), .int .i64 ((sB hh).gen), .int .i64 ((sB hh).epoch), .int .i64 ((sB hh).pages), .int .i64 ((sB hh).start), .int .i64 ((sB hh).len), .int .i64 ((sB hh).head), .int .i64 ((sB hh).seq), .int .i64 ((a + (1 + ((opImgs om.ns om.kd om.fl).length : Int))) % (sB hh).len), .int .i64 (q + 1), .int .i64 (u + (1 + ((opImgs om.ns om.kd om.fl).length : Int))), .bool false, .bool (decide ((sB hh).epoch < 4294967296))] 73 :: tblA pt :: diskA pd (appD D (sB hh) a k (recB (sB hh).epoch q (opImgs om.ns om.kd om.fl))) :: poolA hqi1 :: grow 42 2 v rl.length (rcC rl) :: blk b1 [.int .i64 1, .int .i64 1, .int .i64 16, .int .i64 18, .int .i64 64, .int .i64 hh, .int .i64 9] 31 :: R) w := H'
        clear H'
        obtain ⟨hqn, ⟨shqn, himn⟩, H'⟩ := pool_any H (M := imgsH v2 (opImgs om.ns om.kd om.fl)) (fun h q => him2.le q) (fun _ _ a b => a.le b)
        clear H
        have H : Sep z (poolA hqn :: A :: blk pl [.pointer (some ⟨pd, 0, none⟩), .pointer (some ⟨pt, 0, none⟩), .int .i64 ((sB hh).gen), .int .i64 ((sB hh).epoch), .int .i64 ((sB hh).pages), .int .i64 ((sB hh).start), .int .i64 ((sB hh).len), .int .i64 ((sB hh).head), .int .i64 ((sB hh).seq), .int .i64 ((a + (1 + ((opImgs om.ns om.kd om.fl).length : Int))) % (sB hh).len), .int .i64 (q + 1), .int .i64 (u + (1 + ((opImgs om.ns om.kd om.fl).length : Int))), .bool false, .bool (decide ((sB hh).epoch < 4294967296))] 73 :: tblA pt :: diskA pd (appD D (sB hh) a k (recB (sB hh).epoch q (opImgs om.ns om.kd om.fl))) :: poolA hqi1 :: grow 42 2 v rl.length (rcC rl) :: blk b1 [.int .i64 1, .int .i64 1, .int .i64 16, .int .i64 18, .int .i64 64, .int .i64 hh, .int .i64 9] 31 :: R) w := H'
        clear H'
        obtain ⟨aoi, ci, hv2⟩ := himn.slc
        subst hv2
        refine s_do rfl rfl rfl (d_build rfl rfl (out := [.int .i64 q, .slice aoi ((opImgs om.ns om.kd om.fl).length) ci]) (by kernel_rfl)) ?_
        refine s_go rfl rfl rfl (n_buildSlice H rfl (by kernel_rfl) (Elt.mk (P := Tryd.prog) (e := 42) (z := .agg #[.int .i64 0, .slice none 0 0]) (sz := 2) (by_ := 32) (by kernel_rfl) rfl (by omega) (by omega)) rfl (by decide) (by decide) (out := [.int .i64 q, .slice aoi ((opImgs om.ns om.kd om.fl).length) ci]) (by kernel_rfl)) ?_
        rintro _ w ⟨b2, rfl, H'⟩
        have H : Sep z (blk b2 [.int .i64 q, .slice aoi ((opImgs om.ns om.kd om.fl).length) ci] 42 :: poolA hqn :: A :: blk pl [.pointer (some ⟨pd, 0, none⟩), .pointer (some ⟨pt, 0, none⟩), .int .i64 ((sB hh).gen), .int .i64 ((sB hh).epoch), .int .i64 ((sB hh).pages), .int .i64 ((sB hh).start), .int .i64 ((sB hh).len), .int .i64 ((sB hh).head), .int .i64 ((sB hh).seq), .int .i64 ((a + (1 + ((opImgs om.ns om.kd om.fl).length : Int))) % (sB hh).len), .int .i64 (q + 1), .int .i64 (u + (1 + ((opImgs om.ns om.kd om.fl).length : Int))), .bool false, .bool (decide ((sB hh).epoch < 4294967296))] 73 :: tblA pt :: diskA pd (appD D (sB hh) a k (recB (sB hh).epoch q (opImgs om.ns om.kd om.fl))) :: poolA hqi1 :: grow 42 2 v rl.length (rcC rl) :: blk b1 [.int .i64 1, .int .i64 1, .int .i64 16, .int .i64 18, .int .i64 64, .int .i64 hh, .int .i64 9] 31 :: R) w := H'
        clear H'
        refine s_go rfl rfl rfl (n_append 7 H rfl rfl (by kernel_rfl) (Elt.mk (P := Tryd.prog) (e := 42) (z := .agg #[.int .i64 0, .slice none 0 0]) (sz := 2) (by_ := 32) (by kernel_rfl) rfl (by omega) (by omega)) rfl rfl (H.rd 0 rfl (fun h q => q.rd (by omega) (by omega) (by simp) rfl)) (one_cons rfl (one_cons rfl one_nil)) (by omega)) ?_
        rintro v3 w H'
        have H' : Sep z (blk b2 [.int .i64 q, .slice aoi ((opImgs om.ns om.kd om.fl).length) ci] 42 :: poolA hqn :: A :: blk pl [.pointer (some ⟨pd, 0, none⟩), .pointer (some ⟨pt, 0, none⟩), .int .i64 ((sB hh).gen), .int .i64 ((sB hh).epoch), .int .i64 ((sB hh).pages), .int .i64 ((sB hh).start), .int .i64 ((sB hh).len), .int .i64 ((sB hh).head), .int .i64 ((sB hh).seq), .int .i64 ((a + (1 + ((opImgs om.ns om.kd om.fl).length : Int))) % (sB hh).len), .int .i64 (q + 1), .int .i64 (u + (1 + ((opImgs om.ns om.kd om.fl).length : Int))), .bool false, .bool (decide ((sB hh).epoch < 4294967296))] 73 :: tblA pt :: diskA pd (appD D (sB hh) a k (recB (sB hh).epoch q (opImgs om.ns om.kd om.fl))) :: poolA hqi1 :: grow 42 2 v3 (rl.length + 1) (rcC rl ++ [.int .i64 q, .slice aoi ((opImgs om.ns om.kd om.fl).length) ci]) :: blk b1 [.int .i64 1, .int .i64 1, .int .i64 16, .int .i64 18, .int .i64 64, .int .i64 hh, .int .i64 9] 31 :: R) w := H'
        have ev3 : (rcC rl ++ [.int .i64 q, .slice aoi ((opImgs om.ns om.kd om.fl).length) ci] : List Value) = rcC (rl ++ [(⟨q, opImgs om.ns om.kd om.fl⟩, (.slice aoi (opImgs om.ns om.kd om.fl).length ci))]) := rcC_snoc rl (⟨q, opImgs om.ns om.kd om.fl⟩, (.slice aoi (opImgs om.ns om.kd om.fl).length ci))
        rw [ev3] at H'
        rw [show (rl.length + 1 : Nat) = (rl ++ [((⟨q, opImgs om.ns om.kd om.fl⟩ : Rc), ((.slice aoi (opImgs om.ns om.kd om.fl).length ci) : Value))]).length from by simp] at H'
        have H : Sep z (blk b2 [.int .i64 q, .slice aoi ((opImgs om.ns om.kd om.fl).length) ci] 42 :: poolA hqn :: A :: blk pl [.pointer (some ⟨pd, 0, none⟩), .pointer (some ⟨pt, 0, none⟩), .int .i64 ((sB hh).gen), .int .i64 ((sB hh).epoch), .int .i64 ((sB hh).pages), .int .i64 ((sB hh).start), .int .i64 ((sB hh).len), .int .i64 ((sB hh).head), .int .i64 ((sB hh).seq), .int .i64 ((a + (1 + ((opImgs om.ns om.kd om.fl).length : Int))) % (sB hh).len), .int .i64 (q + 1), .int .i64 (u + (1 + ((opImgs om.ns om.kd om.fl).length : Int))), .bool false, .bool (decide ((sB hh).epoch < 4294967296))] 73 :: tblA pt :: diskA pd (appD D (sB hh) a k (recB (sB hh).epoch q (opImgs om.ns om.kd om.fl))) :: poolA hqi1 :: grow 42 2 v3 ((rl ++ [((⟨q, opImgs om.ns om.kd om.fl⟩ : Rc), ((.slice aoi (opImgs om.ns om.kd om.fl).length ci) : Value))]).length) (rcC (rl ++ [(⟨q, opImgs om.ns om.kd om.fl⟩, (.slice aoi (opImgs om.ns om.kd om.fl).length ci))])) :: blk b1 [.int .i64 1, .int .i64 1, .int .i64 16, .int .i64 18, .int .i64 64, .int .i64 hh, .int .i64 9] 31 :: R) w := H'
        clear H'
        have sv3 := H.says 7 rfl (fun h q => q.slc)
        refine s_do rfl rfl rfl (d_assign rfl rfl) ?_
        refine s_end ?_
        refine s_region ?_
        refine s_do rfl rfl rfl (d_move rfl rfl) ?_
        refine s_do rfl rfl rfl (d_add64 rfl rfl rfl (r := (i : Int) + 1) (by omega) (by omega)) ?_
        refine s_do rfl rfl rfl (d_assign rfl rfl) ?_
        refine s_end ?_
        have H' := H.pick 9 [1, 7, 3, 5, 8, 4, 2] rfl
        have H : Sep z (poolA hqn :: grow 42 2 v3 ((rl ++ [((⟨q, opImgs om.ns om.kd om.fl⟩ : Rc), ((.slice aoi (opImgs om.ns om.kd om.fl).length ci) : Value))]).length) (rcC (rl ++ [(⟨q, opImgs om.ns om.kd om.fl⟩, (.slice aoi (opImgs om.ns om.kd om.fl).length ci))])) :: blk pl [.pointer (some ⟨pd, 0, none⟩), .pointer (some ⟨pt, 0, none⟩), .int .i64 ((sB hh).gen), .int .i64 ((sB hh).epoch), .int .i64 ((sB hh).pages), .int .i64 ((sB hh).start), .int .i64 ((sB hh).len), .int .i64 ((sB hh).head), .int .i64 ((sB hh).seq), .int .i64 ((a + (1 + ((opImgs om.ns om.kd om.fl).length : Int))) % (sB hh).len), .int .i64 (q + 1), .int .i64 (u + (1 + ((opImgs om.ns om.kd om.fl).length : Int))), .bool false, .bool (decide ((sB hh).epoch < 4294967296))] 73 :: diskA pd (appD D (sB hh) a k (recB (sB hh).epoch q (opImgs om.ns om.kd om.fl))) :: blk b1 [.int .i64 1, .int .i64 1, .int .i64 16, .int .i64 18, .int .i64 64, .int .i64 hh, .int .i64 9] 31 :: tblA pt :: A :: R) w := H'
        clear H'
        intro _ hF
        refine ⟨⟨i + 1, rl ++ [(⟨q, opImgs om.ns om.kd om.fl⟩, (.slice aoi (opImgs om.ns om.kd om.fl).length ci))], v3, appD D (sB hh) a k (recB (sB hh).epoch q (opImgs om.ns om.kd om.fl)), (a + (1 + ((opImgs om.ns om.kd om.fl).length : Int))) % (sB hh).len, q + 1, u + (1 + ((opImgs om.ns om.kd om.fl).length : Int)), hqn⟩, (hF.cons (hF.cons (hF.cons (hF.cons (hF.cons (hF.cons (hF.cons (hF.cons hF.nil 10 _ _ rfl rfl) 9 _ _ rfl rfl) 6 _ _ rfl rfl) 5 _ _ rfl rfl) 4 _ _ rfl rfl) 1 _ _ rfl rfl) 11 _ _ rfl rfl) 12 _ _ rfl (by go_num)), ⟨H, ?_⟩, ?_⟩
        · refine ⟨by omega, ?_, hcl.app _ _ _ _ |>.le (by omega), (app_n _ _ _ _ _).trans hDn, ?_, by simp; omega⟩
          · rw [List.map_append]; exact LogInv.app (by omega) (by omega) hinv hl hrec.1 (by omega) (by omega) (by have := hroom.1; rw [if_neg (by decide)] at this; omega) hk
          · intro e he; rcases List.mem_append.1 he with q | q
            · exact (hrk e q).le shqn
            · rw [List.mem_singleton.1 q]; exact himn
        · (dsimp only; omega)
    · -- no: (i : Int) < (es.length : Int)
      refine k_exit ?_
      refine k_here ?_
      refine k_seq ?_
      refine s_region ?_
      refine s_do rfl rfl rfl (d_move rfl rfl) ?_
      refine s_do rfl rfl rfl (d_move rfl rfl) ?_
      refine s_do rfl rfl rfl (d_loadAgg rfl rfl (vs := [.int .i64 1, .int .i64 1, .int .i64 16, .int .i64 18, .int .i64 64, .int .i64 hh, .int .i64 9]) (by kernel_rfl) (here ((H.blk 4 rfl).part 0 7 _ rfl))) ?_
      refine s_callC rfl rfl rfl rfl rfl (fun w => Tryd.call11 _ w) (open_c _ _ (sB hh) _ (by rw [hDn]; exact hok) hcl.f1) H 6 [5, 3, 0, 1, 2, 4] rfl rfl ?_
      rintro _ w _ ⟨pl2, rs2, a2, q2, u2, v2, hq2, rfl, hruns2, hstop2, hrecs2, rfl⟩ H'
      have H : Sep z (poolA hq2 :: blk pl2 [.pointer (some ⟨pd, 0, none⟩), .pointer (some ⟨pt, 0, none⟩), .int .i64 ((sB hh).gen), .int .i64 ((sB hh).epoch), .int .i64 ((sB hh).pages), .int .i64 ((sB hh).start), .int .i64 ((sB hh).len), .int .i64 ((sB hh).head), .int .i64 ((sB hh).seq), .int .i64 a2, .int .i64 q2, .int .i64 u2, .bool false, .bool (decide ((sB hh).epoch < 4294967296))] 73 :: tblA pt :: diskA pd D :: poolA hq :: grow 42 2 v rl.length (rcC rl) :: blk pl [.pointer (some ⟨pd, 0, none⟩), .pointer (some ⟨pt, 0, none⟩), .int .i64 ((sB hh).gen), .int .i64 ((sB hh).epoch), .int .i64 ((sB hh).pages), .int .i64 ((sB hh).start), .int .i64 ((sB hh).len), .int .i64 ((sB hh).head), .int .i64 ((sB hh).seq), .int .i64 a, .int .i64 q, .int .i64 u, .bool false, .bool (decide ((sB hh).epoch < 4294967296))] 73 :: blk b1 [.int .i64 1, .int .i64 1, .int .i64 16, .int .i64 18, .int .i64 64, .int .i64 hh, .int .i64 9] 31 :: A :: R) w := H'
      clear H'
      obtain ⟨rfl, rfl, rfl, rfl⟩ := hinv.runs.only hruns2 (hinv.stop (by omega)) hstop2
      have H : Sep z (poolA hq2 :: blk pl2 [.pointer (some ⟨pd, 0, none⟩), .pointer (some ⟨pt, 0, none⟩), .int .i64 ((sB hh).gen), .int .i64 ((sB hh).epoch), .int .i64 ((sB hh).pages), .int .i64 ((sB hh).start), .int .i64 ((sB hh).len), .int .i64 ((sB hh).head), .int .i64 ((sB hh).seq), .int .i64 a, .int .i64 q, .int .i64 u, .bool false, .bool (decide ((sB hh).epoch < 4294967296))] 73 :: tblA pt :: diskA pd D :: poolA hq :: grow 42 2 v rl.length (rcC rl) :: blk pl [.pointer (some ⟨pd, 0, none⟩), .pointer (some ⟨pt, 0, none⟩), .int .i64 ((sB hh).gen), .int .i64 ((sB hh).epoch), .int .i64 ((sB hh).pages), .int .i64 ((sB hh).start), .int .i64 ((sB hh).len), .int .i64 ((sB hh).head), .int .i64 ((sB hh).seq), .int .i64 a, .int .i64 q, .int .i64 u, .bool false, .bool (decide ((sB hh).epoch < 4294967296))] 73 :: blk b1 [.int .i64 1, .int .i64 1, .int .i64 16, .int .i64 18, .int .i64 64, .int .i64 hh, .int .i64 9] 31 :: A :: R) w := H
      refine s_do rfl rfl rfl (d_move rfl rfl) ?_
      refine s_do rfl rfl rfl (d_extract rfl rfl rfl) ?_
      refine s_do rfl rfl rfl (d_extract rfl rfl rfl) ?_
      refine s_do rfl rfl rfl (d_extract rfl rfl rfl) ?_
      refine s_do rfl rfl rfl (d_assign rfl rfl) ?_
      refine s_do rfl rfl rfl (d_assign rfl rfl) ?_
      refine s_do rfl rfl rfl (d_assign rfl rfl) ?_
      refine s_end ?_
      refine k_seq ?_
      refine k_seq ?_
      have H' := H.pick 9 [4, 5, 0, 1, 2, 3, 6, 7, 8] rfl
      have H : Sep z (poolA hq :: grow 42 2 v rl.length (rcC rl) :: poolA hq2 :: blk pl2 [.pointer (some ⟨pd, 0, none⟩), .pointer (some ⟨pt, 0, none⟩), .int .i64 ((sB hh).gen), .int .i64 ((sB hh).epoch), .int .i64 ((sB hh).pages), .int .i64 ((sB hh).start), .int .i64 ((sB hh).len), .int .i64 ((sB hh).head), .int .i64 ((sB hh).seq), .int .i64 a, .int .i64 q, .int .i64 u, .bool false, .bool (decide ((sB hh).epoch < 4294967296))] 73 :: tblA pt :: diskA pd D :: blk pl [.pointer (some ⟨pd, 0, none⟩), .pointer (some ⟨pt, 0, none⟩), .int .i64 ((sB hh).gen), .int .i64 ((sB hh).epoch), .int .i64 ((sB hh).pages), .int .i64 ((sB hh).start), .int .i64 ((sB hh).len), .int .i64 ((sB hh).head), .int .i64 ((sB hh).seq), .int .i64 a, .int .i64 q, .int .i64 u, .bool false, .bool (decide ((sB hh).epoch < 4294967296))] 73 :: blk b1 [.int .i64 1, .int .i64 1, .int .i64 16, .int .i64 18, .int .i64 64, .int .i64 hh, .int .i64 9] 31 :: A :: R) w := H'
      clear H'
      obtain ⟨hq5, ⟨shq5, hrd5⟩, H'⟩ := pool_rd H (fun h q => q.rd)
      clear H
      have H : Sep z (poolA hq5 :: poolA hq2 :: blk pl2 [.pointer (some ⟨pd, 0, none⟩), .pointer (some ⟨pt, 0, none⟩), .int .i64 ((sB hh).gen), .int .i64 ((sB hh).epoch), .int .i64 ((sB hh).pages), .int .i64 ((sB hh).start), .int .i64 ((sB hh).len), .int .i64 ((sB hh).head), .int .i64 ((sB hh).seq), .int .i64 a, .int .i64 q, .int .i64 u, .bool false, .bool (decide ((sB hh).epoch < 4294967296))] 73 :: tblA pt :: diskA pd D :: blk pl [.pointer (some ⟨pd, 0, none⟩), .pointer (some ⟨pt, 0, none⟩), .int .i64 ((sB hh).gen), .int .i64 ((sB hh).epoch), .int .i64 ((sB hh).pages), .int .i64 ((sB hh).start), .int .i64 ((sB hh).len), .int .i64 ((sB hh).head), .int .i64 ((sB hh).seq), .int .i64 a, .int .i64 q, .int .i64 u, .bool false, .bool (decide ((sB hh).epoch < 4294967296))] 73 :: blk b1 [.int .i64 1, .int .i64 1, .int .i64 16, .int .i64 18, .int .i64 64, .int .i64 hh, .int .i64 9] 31 :: A :: R) w := H'
      clear H'
      obtain ⟨hq6, ⟨shq6, hrec6⟩, H'⟩ := pool_any H (M := recsH v2 (rl.map Prod.fst)) (fun h q => hrecs2.le q) (fun _ _ a b => a.le b)
      clear H
      have H : Sep z (poolA hq6 :: blk pl2 [.pointer (some ⟨pd, 0, none⟩), .pointer (some ⟨pt, 0, none⟩), .int .i64 ((sB hh).gen), .int .i64 ((sB hh).epoch), .int .i64 ((sB hh).pages), .int .i64 ((sB hh).start), .int .i64 ((sB hh).len), .int .i64 ((sB hh).head), .int .i64 ((sB hh).seq), .int .i64 a, .int .i64 q, .int .i64 u, .bool false, .bool (decide ((sB hh).epoch < 4294967296))] 73 :: tblA pt :: diskA pd D :: blk pl [.pointer (some ⟨pd, 0, none⟩), .pointer (some ⟨pt, 0, none⟩), .int .i64 ((sB hh).gen), .int .i64 ((sB hh).epoch), .int .i64 ((sB hh).pages), .int .i64 ((sB hh).start), .int .i64 ((sB hh).len), .int .i64 ((sB hh).head), .int .i64 ((sB hh).seq), .int .i64 a, .int .i64 q, .int .i64 u, .bool false, .bool (decide ((sB hh).epoch < 4294967296))] 73 :: blk b1 [.int .i64 1, .int .i64 1, .int .i64 16, .int .i64 18, .int .i64 64, .int .i64 hh, .int .i64 9] 31 :: A :: R) w := H'
      clear H'
      have hrec7 : recsH v (rl.map Prod.fst) hq6 := ⟨rl, rfl, by simpa using hrd5.le shq6, hrk.le (fun k o e => shq6 k o (shq5 k o e))⟩
      have hpos := hinv.runs.pos (by omega)
      have hrll : (rl.map Prod.fst).length = rl.length := by simp
      refine s_region ?_
      refine s_do rfl rfl rfl (d_move rfl rfl) ?_
      refine s_do rfl rfl rfl (d_neq rfl rfl rfl) ?_
      refine k_updA 85 (u := .bool (decide ((0 : Int) ≠ 0))) (v := .bool false) rfl (congrArg Value.bool (by decide)) ?_
      refine s_do rfl rfl rfl (d_move rfl rfl) ?_
      refine s_do rfl rfl rfl (d_move rfl rfl) ?_
      refine s_do rfl rfl rfl (d_eql_pn rfl (by kernel_rfl) rfl rfl) ?_
      refine s_do rfl rfl rfl (d_pick_f rfl rfl rfl) ?_
      refine s_do rfl rfl rfl (d_move rfl rfl) ?_
      refine s_do rfl rfl rfl (d_move rfl rfl) ?_
      refine s_do rfl rfl rfl (d_move rfl rfl) ?_
      refine s_callC rfl rfl rfl rfl rfl (fun w => Tryd.call12 _ w) (records_c _ _ (rl.map Prod.fst) _ hrec6 hrec7) H 1 [0] rfl rfl ?_
      rintro _ w _ ⟨rfl, rfl⟩ H'
      have H : Sep z (poolA hq6 :: blk pl2 [.pointer (some ⟨pd, 0, none⟩), .pointer (some ⟨pt, 0, none⟩), .int .i64 ((sB hh).gen), .int .i64 ((sB hh).epoch), .int .i64 ((sB hh).pages), .int .i64 ((sB hh).start), .int .i64 ((sB hh).len), .int .i64 ((sB hh).head), .int .i64 ((sB hh).seq), .int .i64 a, .int .i64 q, .int .i64 u, .bool false, .bool (decide ((sB hh).epoch < 4294967296))] 73 :: tblA pt :: diskA pd D :: blk pl [.pointer (some ⟨pd, 0, none⟩), .pointer (some ⟨pt, 0, none⟩), .int .i64 ((sB hh).gen), .int .i64 ((sB hh).epoch), .int .i64 ((sB hh).pages), .int .i64 ((sB hh).start), .int .i64 ((sB hh).len), .int .i64 ((sB hh).head), .int .i64 ((sB hh).seq), .int .i64 a, .int .i64 q, .int .i64 u, .bool false, .bool (decide ((sB hh).epoch < 4294967296))] 73 :: blk b1 [.int .i64 1, .int .i64 1, .int .i64 16, .int .i64 18, .int .i64 64, .int .i64 hh, .int .i64 9] 31 :: A :: R) w := H'
      clear H'
      refine s_do rfl rfl rfl (d_not rfl rfl) ?_
      refine s_do rfl rfl rfl (d_pick_f rfl rfl rfl) ?_
      refine s_do rfl rfl rfl (d_move rfl rfl) ?_
      refine s_do rfl rfl rfl (d_move rfl rfl) ?_
      refine s_callC rfl rfl rfl rfl rfl (fun w => Tryd.call13 _ w) (room_c _ _ _ _ _ _ _ _ _ (by omega)) H 2 [1, 0] rfl rfl ?_
      rintro _ w _ ⟨rfl, rfl⟩ H'
      have H : Sep z (blk pl2 [.pointer (some ⟨pd, 0, none⟩), .pointer (some ⟨pt, 0, none⟩), .int .i64 ((sB hh).gen), .int .i64 ((sB hh).epoch), .int .i64 ((sB hh).pages), .int .i64 ((sB hh).start), .int .i64 ((sB hh).len), .int .i64 ((sB hh).head), .int .i64 ((sB hh).seq), .int .i64 a, .int .i64 q, .int .i64 u, .bool false, .bool (decide ((sB hh).epoch < 4294967296))] 73 :: poolA hq6 :: tblA pt :: diskA pd D :: blk pl [.pointer (some ⟨pd, 0, none⟩), .pointer (some ⟨pt, 0, none⟩), .int .i64 ((sB hh).gen), .int .i64 ((sB hh).epoch), .int .i64 ((sB hh).pages), .int .i64 ((sB hh).start), .int .i64 ((sB hh).len), .int .i64 ((sB hh).head), .int .i64 ((sB hh).seq), .int .i64 a, .int .i64 q, .int .i64 u, .bool false, .bool (decide ((sB hh).epoch < 4294967296))] 73 :: blk b1 [.int .i64 1, .int .i64 1, .int .i64 16, .int .i64 18, .int .i64 64, .int .i64 hh, .int .i64 9] 31 :: A :: R) w := H'
      clear H'
      refine s_do rfl rfl rfl (d_move rfl rfl) ?_
      refine s_callC rfl rfl rfl rfl rfl (fun w => Tryd.call13 _ w) (room_c _ _ _ _ _ _ _ _ _ (by omega)) H 5 [4, 0, 1, 2, 3] rfl rfl ?_
      rintro _ w _ ⟨rfl, rfl⟩ H'
      have H : Sep z (blk pl [.pointer (some ⟨pd, 0, none⟩), .pointer (some ⟨pt, 0, none⟩), .int .i64 ((sB hh).gen), .int .i64 ((sB hh).epoch), .int .i64 ((sB hh).pages), .int .i64 ((sB hh).start), .int .i64 ((sB hh).len), .int .i64 ((sB hh).head), .int .i64 ((sB hh).seq), .int .i64 a, .int .i64 q, .int .i64 u, .bool false, .bool (decide ((sB hh).epoch < 4294967296))] 73 :: blk pl2 [.pointer (some ⟨pd, 0, none⟩), .pointer (some ⟨pt, 0, none⟩), .int .i64 ((sB hh).gen), .int .i64 ((sB hh).epoch), .int .i64 ((sB hh).pages), .int .i64 ((sB hh).start), .int .i64 ((sB hh).len), .int .i64 ((sB hh).head), .int .i64 ((sB hh).seq), .int .i64 a, .int .i64 q, .int .i64 u, .bool false, .bool (decide ((sB hh).epoch < 4294967296))] 73 :: poolA hq6 :: tblA pt :: diskA pd D :: blk b1 [.int .i64 1, .int .i64 1, .int .i64 16, .int .i64 18, .int .i64 64, .int .i64 hh, .int .i64 9] 31 :: A :: R) w := H'
      clear H'
      refine s_do rfl rfl rfl (d_neq rfl rfl rfl) ?_
      refine s_do rfl rfl rfl (d_pick_f rfl rfl rfl) ?_
      refine s_end ?_
      refine k_dec rfl (fun h4 => ?_) (fun h4 => ?_)
      · exact absurd rfl h4
      · -- no: (if false then 0 else (sB hh).len - u : Int) ≠ (if false then 0 else (sB hh).len - u)
        refine k_skip ?_
        refine k_seq ?_
        refine s_region ?_
        refine s_do rfl rfl rfl (d_move rfl rfl) ?_
        refine s_callC rfl rfl rfl rfl rfl (fun w => Tryd.call14 _ w) (tail_c _ _ _ _ _ _ _ _ _) H 1 [0] rfl rfl ?_
        rintro _ w _ ⟨rfl, rfl⟩ H'
        have H : Sep z (blk pl [.pointer (some ⟨pd, 0, none⟩), .pointer (some ⟨pt, 0, none⟩), .int .i64 ((sB hh).gen), .int .i64 ((sB hh).epoch), .int .i64 ((sB hh).pages), .int .i64 ((sB hh).start), .int .i64 ((sB hh).len), .int .i64 ((sB hh).head), .int .i64 ((sB hh).seq), .int .i64 a, .int .i64 q, .int .i64 u, .bool false, .bool (decide ((sB hh).epoch < 4294967296))] 73 :: blk pl2 [.pointer (some ⟨pd, 0, none⟩), .pointer (some ⟨pt, 0, none⟩), .int .i64 ((sB hh).gen), .int .i64 ((sB hh).epoch), .int .i64 ((sB hh).pages), .int .i64 ((sB hh).start), .int .i64 ((sB hh).len), .int .i64 ((sB hh).head), .int .i64 ((sB hh).seq), .int .i64 a, .int .i64 q, .int .i64 u, .bool false, .bool (decide ((sB hh).epoch < 4294967296))] 73 :: poolA hq6 :: tblA pt :: diskA pd D :: blk b1 [.int .i64 1, .int .i64 1, .int .i64 16, .int .i64 18, .int .i64 64, .int .i64 hh, .int .i64 9] 31 :: A :: R) w := H'
        clear H'
        refine s_do rfl rfl rfl (d_move rfl rfl) ?_
        refine s_do rfl rfl rfl (d_extract rfl rfl rfl) ?_
        refine s_do rfl rfl rfl (d_extract rfl rfl rfl) ?_
        refine s_do rfl rfl rfl (d_assign rfl rfl) ?_
        refine s_do rfl rfl rfl (d_assign rfl rfl) ?_
        refine s_end ?_
        refine k_seq ?_
        refine s_region ?_
        refine s_do rfl rfl rfl (d_move rfl rfl) ?_
        refine s_callC rfl rfl rfl rfl rfl (fun w => Tryd.call14 _ w) (tail_c _ _ _ _ _ _ _ _ _) H 2 [1, 0] rfl rfl ?_
        rintro _ w _ ⟨rfl, rfl⟩ H'
        have H : Sep z (blk pl2 [.pointer (some ⟨pd, 0, none⟩), .pointer (some ⟨pt, 0, none⟩), .int .i64 ((sB hh).gen), .int .i64 ((sB hh).epoch), .int .i64 ((sB hh).pages), .int .i64 ((sB hh).start), .int .i64 ((sB hh).len), .int .i64 ((sB hh).head), .int .i64 ((sB hh).seq), .int .i64 a, .int .i64 q, .int .i64 u, .bool false, .bool (decide ((sB hh).epoch < 4294967296))] 73 :: blk pl [.pointer (some ⟨pd, 0, none⟩), .pointer (some ⟨pt, 0, none⟩), .int .i64 ((sB hh).gen), .int .i64 ((sB hh).epoch), .int .i64 ((sB hh).pages), .int .i64 ((sB hh).start), .int .i64 ((sB hh).len), .int .i64 ((sB hh).head), .int .i64 ((sB hh).seq), .int .i64 a, .int .i64 q, .int .i64 u, .bool false, .bool (decide ((sB hh).epoch < 4294967296))] 73 :: poolA hq6 :: tblA pt :: diskA pd D :: blk b1 [.int .i64 1, .int .i64 1, .int .i64 16, .int .i64 18, .int .i64 64, .int .i64 hh, .int .i64 9] 31 :: A :: R) w := H'
        clear H'
        refine s_do rfl rfl rfl (d_move rfl rfl) ?_
        refine s_do rfl rfl rfl (d_extract rfl rfl rfl) ?_
        refine s_do rfl rfl rfl (d_extract rfl rfl rfl) ?_
        refine s_do rfl rfl rfl (d_assign rfl rfl) ?_
        refine s_do rfl rfl rfl (d_assign rfl rfl) ?_
        refine s_end ?_
        refine k_seq ?_
        refine s_region ?_
        refine s_do rfl rfl rfl (d_move rfl rfl) ?_
        refine s_do rfl rfl rfl (d_move rfl rfl) ?_
        refine s_do rfl rfl rfl (d_eql rfl rfl rfl) ?_
        refine s_do rfl rfl rfl (d_move rfl rfl) ?_
        refine s_part 116 rfl (fun h5 => ?_) (fun h5 => ?_)
        · -- yes: (a : Int) = a
          refine s_do rfl rfl rfl (d_move rfl rfl) ?_
          refine s_do rfl rfl rfl (d_move rfl rfl) ?_
          refine s_do rfl rfl rfl (d_eql rfl rfl rfl) ?_
          refine s_do rfl rfl rfl (d_pick_t rfl rfl rfl) ?_
          refine s_do rfl rfl rfl (d_move rfl rfl) ?_
          refine s_part 121 rfl (fun h6 => ?_) (fun h6 => ?_)
          · -- yes: (q : Int) = q
            refine s_do rfl rfl rfl (d_move rfl rfl) ?_
            refine s_do rfl rfl rfl (d_move rfl rfl) ?_
            refine s_do rfl rfl rfl (d_lenV rfl (sz := 2) (by kernel_rfl) rfl sv) ?_
            refine s_do rfl rfl rfl (d_add64 rfl rfl rfl (r := 9 + (rl.length : Int)) (by omega) (by omega)) ?_
            refine s_do rfl rfl rfl (d_eql rfl rfl rfl) ?_
            refine s_do rfl rfl rfl (d_pick_t rfl rfl rfl) ?_
            refine s_do rfl rfl rfl (d_assign rfl rfl) ?_
            refine s_end ?_
            refine k_ret ?_
            refine doneL rfl [.bool (decide ((q : Int) = (9 + (rl.length : Int))))] ⟨rfl, trivial⟩ (v := .bool (decide ((q : Int) = (9 + (rl.length : Int))))) rfl ?_
            exact ⟨[A], ⟨congrArg Value.bool (by first | rfl | (simp only [decide_eq_true_eq]; omega)), rfl⟩, H.perm 7 [6] rfl rfl⟩
          · exact absurd rfl h6
        · exact absurd rfl h5
end Go.Proofs.YtanejicgmgpjcaaDoor
