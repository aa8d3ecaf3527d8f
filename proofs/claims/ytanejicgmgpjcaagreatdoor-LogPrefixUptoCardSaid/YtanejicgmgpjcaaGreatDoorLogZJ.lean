/-
  Walks: the law LogPrefix. No condition.
-/
import Derived.Test.YtanejicgmgpjcaaGreatDoorLogZI
set_option maxRecDepth 100000
namespace Go.Proofs.YtanejicgmgpjcaaGreatDoor
open Go.RowKit
set_option maxHeartbeats 8000000 in
theorem logPrefix_c (hd : Int) (v : Value) (es : List (OpE × List Int)) (hes : es.length ≤ 1000000000) (A : Asn) (hA : ∀ h, A h → rdH 7 v es.length (opC (es.map Prod.fst)) h ∧ opsP es h) : Cn Tryz.prog 4 [.int .i64 hd, v] [A] (fun v Γ => v = .bool true ∧ Γ = [A]) := by
  intro z R w H'
  have H : Sep z (A :: R) w := H'
  clear H'
  obtain ⟨ao, oc, rfl⟩ := H.says 0 rfl (fun h q => (hA h q).1.slc)
  refine enter Tryz.func4 rfl 185 Tryz.ntmps4 rfl ?_
  refine k_seq ?_
  refine s_region ?_
  refine s_do rfl rfl rfl (d_assign rfl rfl) ?_
  refine s_end ?_
  refine k_seq ?_
  refine s_region ?_
  refine s_callC rfl rfl rfl rfl rfl (fun w => Tryz.call5 _ w) (crcnew_c ) H 0 [] rfl rfl ?_
  rintro _ w _ ⟨pt, rfl, rfl⟩ H'
  have H : Sep z (tblA pt :: A :: R) w := H'
  clear H'
  refine s_do rfl rfl rfl (d_assign rfl rfl) ?_
  refine s_end ?_
  refine k_seq ?_
  refine s_region ?_
  refine s_callC rfl rfl rfl rfl rfl (fun w => Tryz.call6 _ w) (dnew_c 100) H 0 [] rfl rfl ?_
  rintro _ w _ (⟨hn, rfl, rfl⟩ | ⟨_, pd, rfl, rfl⟩) H'
  · exact absurd (by omega) hn
  · -- a case
    have H : Sep z (diskA pd (newD 100) :: tblA pt :: A :: R) w := H'
    clear H'
    refine s_do rfl rfl rfl (d_move rfl rfl) ?_
    refine s_do rfl rfl rfl (d_extract rfl rfl rfl) ?_
    refine s_do rfl rfl rfl (d_extract rfl rfl rfl) ?_
    refine s_do rfl rfl rfl (d_assign rfl rfl) ?_
    refine s_do rfl rfl rfl (d_assign rfl rfl) ?_
    refine s_end ?_
    refine k_seq ?_
    refine k_seq ?_
    refine s_region ?_
    refine s_do rfl rfl rfl (d_move rfl rfl) ?_
    refine s_do rfl rfl rfl (d_neq rfl rfl rfl) ?_
    refine k_updA 30 (u := .bool (decide ((0 : Int) ≠ 0))) (v := .bool false) rfl (congrArg Value.bool (by decide)) ?_
    refine s_do rfl rfl rfl (d_move rfl rfl) ?_
    refine s_do rfl rfl rfl (d_move rfl rfl) ?_
    refine s_do rfl rfl rfl (d_eql_pn rfl (by kernel_rfl) rfl rfl) ?_
    refine s_do rfl rfl rfl (d_pick_f rfl rfl rfl) ?_
    refine s_do rfl rfl rfl (d_move rfl rfl) ?_
    refine s_do rfl rfl rfl (d_move rfl rfl) ?_
    refine s_callC rfl rfl rfl rfl rfl (fun w => Tryz.call7 _ w) (known_c _) H 2 [1, 0] rfl rfl ?_
    rintro _ w _ ⟨rfl, rfl⟩ H'
    have H : Sep z (tblA pt :: diskA pd (newD 100) :: A :: R) w := H'
    clear H'
    refine s_do rfl rfl rfl (d_not rfl rfl) ?_
    refine s_do rfl rfl rfl (d_pick_f rfl rfl rfl) ?_
    refine s_end ?_
    refine k_false rfl ?_
    refine k_skip ?_
    refine k_seq ?_
    refine s_region ?_
    refine s_do rfl rfl rfl (d_move rfl rfl) ?_
    refine s_do rfl rfl rfl (d_rem rfl rfl rfl (by decide)) ?_
    refine s_do rfl rfl rfl (d_assign rfl rfl) ?_
    refine s_end ?_
    refine k_cut (fun a w => ∃ (hh : Int), Fr 185 [] [(8, .int .i64 hh), (0, .int .i64 hd), (1, .slice ao es.length oc), (4, .bool false), (5, .pointer (some ⟨pt, 0, none⟩)), (6, .pointer (some ⟨pd, 0, none⟩)), (7, .int .i64 0), (24, .pointer (some ⟨pt, 0, none⟩)), (25, .tuple #[.pointer (some ⟨pd, 0, none⟩), .int .i64 0]), (26, .tuple #[.pointer (some ⟨pd, 0, none⟩), .int .i64 0]), (27, .pointer (some ⟨pd, 0, none⟩)), (28, .int .i64 0), (29, .int .i64 0), (30, .bool false), (31, .bool false), (32, .pointer (some ⟨pd, 0, none⟩)), (33, .bool false), (34, .bool false), (35, .bool false), (36, .pointer (some ⟨pt, 0, none⟩)), (37, .bool true), (38, .bool false), (39, .bool false), (40, .int .i64 hd), (41, .int .i64 (hd.tmod 64))] a ∧ Sep z (tblA pt :: diskA pd (newD 100) :: A :: R) w ∧ (0 ≤ hh ∧ hh < 64)) ?_ ?_
    · -- 6
      refine k_seq ?_
      have hm1 := Int.tmod_lt_of_pos hd (by decide : (0 : Int) < 64)
      have hm2 := Int.lt_tmod_of_pos hd (by decide : (0 : Int) < 64)
      refine s_region ?_
      refine s_do rfl rfl rfl (d_move rfl rfl) ?_
      refine s_do rfl rfl rfl (d_lss rfl rfl rfl) ?_
      refine s_end ?_
      refine k_dec rfl (fun h1 => ?_) (fun h1 => ?_)
      · -- yes: (hd.tmod 64 : Int) < 0
        refine s_region ?_
        refine s_do rfl rfl rfl (d_move rfl rfl) ?_
        refine s_do rfl rfl rfl (d_add64 rfl rfl rfl (r := (hd.tmod 64) + 64) (by omega) (by omega)) ?_
        refine s_do rfl rfl rfl (d_assign rfl rfl) ?_
        refine s_end ?_
        exact fun _ hF => ⟨((hd.tmod 64) + 64), (hF.cons (hF.cons (hF.cons (hF.cons (hF.cons (hF.cons (hF.cons (hF.cons (hF.cons (hF.cons (hF.cons (hF.cons (hF.cons (hF.cons (hF.cons (hF.cons (hF.cons (hF.cons (hF.cons (hF.cons (hF.cons (hF.cons (hF.cons (hF.cons (hF.cons hF.nil 41 _ _ rfl rfl) 40 _ _ rfl rfl) 39 _ _ rfl rfl) 38 _ _ rfl rfl) 37 _ _ rfl rfl) 36 _ _ rfl rfl) 35 _ _ rfl rfl) 34 _ _ rfl rfl) 33 _ _ rfl rfl) 32 _ _ rfl rfl) 31 _ _ rfl rfl) 30 _ _ rfl rfl) 29 _ _ rfl rfl) 28 _ _ rfl rfl) 27 _ _ rfl rfl) 26 _ _ rfl rfl) 25 _ _ rfl rfl) 24 _ _ rfl rfl) 7 _ _ rfl rfl) 6 _ _ rfl rfl) 5 _ _ rfl rfl) 4 _ _ rfl rfl) 1 _ _ rfl rfl) 0 _ _ rfl rfl) 8 _ _ rfl rfl), H, (by omega)⟩
      · -- no: (hd.tmod 64 : Int) < 0
        refine k_skip ?_
        exact fun _ hF => ⟨(hd.tmod 64), (hF.cons (hF.cons (hF.cons (hF.cons (hF.cons (hF.cons (hF.cons (hF.cons (hF.cons (hF.cons (hF.cons (hF.cons (hF.cons (hF.cons (hF.cons (hF.cons (hF.cons (hF.cons (hF.cons (hF.cons (hF.cons (hF.cons (hF.cons (hF.cons (hF.cons hF.nil 41 _ _ rfl rfl) 40 _ _ rfl rfl) 39 _ _ rfl rfl) 38 _ _ rfl rfl) 37 _ _ rfl rfl) 36 _ _ rfl rfl) 35 _ _ rfl rfl) 34 _ _ rfl rfl) 33 _ _ rfl rfl) 32 _ _ rfl rfl) 31 _ _ rfl rfl) 30 _ _ rfl rfl) 29 _ _ rfl rfl) 28 _ _ rfl rfl) 27 _ _ rfl rfl) 26 _ _ rfl rfl) 25 _ _ rfl rfl) 24 _ _ rfl rfl) 7 _ _ rfl rfl) 6 _ _ rfl rfl) 5 _ _ rfl rfl) 4 _ _ rfl rfl) 1 _ _ rfl rfl) 0 _ _ rfl rfl) 8 _ _ rfl rfl), H, (by omega)⟩
    rintro a w ⟨hh, hF, H, hI⟩
    revert a
    refine k_seq ?_
    have hsP := sP_f 1 hh 0
    have hok : (sP 1 hh 0).Ok (100 : Int) := sP_ok (by omega) (by omega) (by omega)
    have hsok : SOk (sP 1 hh 0) := sP_s (by omega) (by omega) (by omega)
    refine s_region ?_
    refine s_do rfl rfl rfl (d_move rfl rfl) ?_
    refine s_do rfl rfl rfl (d_build rfl rfl (out := [.int .i64 1, .int .i64 1, .int .i64 16, .int .i64 18, .int .i64 64, .int .i64 hh, .int .i64 0]) (by kernel_rfl)) ?_
    refine s_go rfl rfl rfl (n_alloc (P := Tryz.prog) H rfl (zs := [.int .i64 0, .int .i64 0, .int .i64 0, .int .i64 0, .int .i64 0, .int .i64 0, .int .i64 0]) (by kernel_rfl)) ?_
    rintro _ w ⟨b1, rfl, H'⟩
    have H : Sep z (blk b1 [.int .i64 0, .int .i64 0, .int .i64 0, .int .i64 0, .int .i64 0, .int .i64 0, .int .i64 0] 33 :: tblA pt :: diskA pd (newD 100) :: A :: R) w := H'
    clear H'
    refine s_put rfl rfl (n_store 0 H rfl rfl rfl rfl (vs := [.int .i64 1, .int .i64 1, .int .i64 16, .int .i64 18, .int .i64 64, .int .i64 hh, .int .i64 0]) rfl (by simp [u8, u32, Value.oneCell']) (by kernel_rfl) (by simp) (out := [.int .i64 1, .int .i64 1, .int .i64 16, .int .i64 18, .int .i64 64, .int .i64 hh, .int .i64 0]) rfl) ?_
    rintro w H'
    have H : Sep z (blk b1 [.int .i64 1, .int .i64 1, .int .i64 16, .int .i64 18, .int .i64 64, .int .i64 hh, .int .i64 0] 33 :: tblA pt :: diskA pd (newD 100) :: A :: R) w := H'
    clear H'
    refine s_end ?_
    refine k_seq ?_
    refine s_region ?_
    refine s_do rfl rfl rfl (d_move rfl rfl) ?_
    refine s_do rfl rfl rfl (d_move rfl rfl) ?_
    refine s_do rfl rfl rfl (d_loadAgg rfl rfl (vs := [.int .i64 1, .int .i64 1, .int .i64 16, .int .i64 18, .int .i64 64, .int .i64 hh, .int .i64 0]) (by kernel_rfl) (here ((H.blk 0 rfl).part 0 7 _ rfl))) ?_
    refine s_callC rfl rfl rfl rfl rfl (fun w => Tryz.call8 _ w) (lnewD_c _ _ _ (sP 1 hh 0) hok) H 3 [2, 0, 1] rfl rfl ?_
    rintro _ w _ ⟨pl, rfl, rfl⟩ H'
    have H : Sep z (blk pl [.pointer (some ⟨pd, 0, none⟩), .pointer (some ⟨pt, 0, none⟩), .int .i64 ((sP 1 hh 0).gen), .int .i64 ((sP 1 hh 0).epoch), .int .i64 ((sP 1 hh 0).pages), .int .i64 ((sP 1 hh 0).start), .int .i64 ((sP 1 hh 0).len), .int .i64 ((sP 1 hh 0).head), .int .i64 ((sP 1 hh 0).seq), .int .i64 ((sP 1 hh 0).head), .int .i64 ((sP 1 hh 0).seq), .int .i64 0, .bool false, .bool (decide ((sP 1 hh 0).epoch < 4294967296))] 77 :: diskA pd (newD 100) :: blk b1 [.int .i64 1, .int .i64 1, .int .i64 16, .int .i64 18, .int .i64 64, .int .i64 hh, .int .i64 0] 33 :: tblA pt :: A :: R) w := H'
    clear H'
    refine s_do rfl rfl rfl (d_assign rfl rfl) ?_
    refine s_end ?_
    refine k_seq ?_
    refine k_seq ?_
    refine s_region ?_
    refine s_do rfl rfl rfl (d_move rfl rfl) ?_
    refine s_do rfl rfl rfl (d_eql_pn rfl (by kernel_rfl) rfl rfl) ?_
    refine s_end ?_
    refine k_false rfl ?_
    refine k_skip ?_
    refine k_seq ?_
    refine s_region ?_
    refine s_do rfl rfl rfl (d_assign rfl rfl) ?_
    refine s_end ?_
    refine k_seq ?_
    refine s_region ?_
    refine s_do rfl rfl rfl (d_assign rfl rfl) ?_
    refine s_end ?_
    refine k_seq ?_
    refine k_seq ?_
    have H' := H.nilg 48 2
    have H : Sep z (grow 48 2 (.slice none 0 0) 0 [] :: blk pl [.pointer (some ⟨pd, 0, none⟩), .pointer (some ⟨pt, 0, none⟩), .int .i64 ((sP 1 hh 0).gen), .int .i64 ((sP 1 hh 0).epoch), .int .i64 ((sP 1 hh 0).pages), .int .i64 ((sP 1 hh 0).start), .int .i64 ((sP 1 hh 0).len), .int .i64 ((sP 1 hh 0).head), .int .i64 ((sP 1 hh 0).seq), .int .i64 ((sP 1 hh 0).head), .int .i64 ((sP 1 hh 0).seq), .int .i64 0, .bool false, .bool (decide ((sP 1 hh 0).epoch < 4294967296))] 77 :: diskA pd (newD 100) :: blk b1 [.int .i64 1, .int .i64 1, .int .i64 16, .int .i64 18, .int .i64 64, .int .i64 hh, .int .i64 0] 33 :: tblA pt :: A :: R) w := H'
    clear H'
    have H' := pool0 H
    have H : Sep z (poolA (fun _ => none) :: grow 48 2 (.slice none 0 0) 0 [] :: blk pl [.pointer (some ⟨pd, 0, none⟩), .pointer (some ⟨pt, 0, none⟩), .int .i64 ((sP 1 hh 0).gen), .int .i64 ((sP 1 hh 0).epoch), .int .i64 ((sP 1 hh 0).pages), .int .i64 ((sP 1 hh 0).start), .int .i64 ((sP 1 hh 0).len), .int .i64 ((sP 1 hh 0).head), .int .i64 ((sP 1 hh 0).seq), .int .i64 ((sP 1 hh 0).head), .int .i64 ((sP 1 hh 0).seq), .int .i64 0, .bool false, .bool (decide ((sP 1 hh 0).epoch < 4294967296))] 77 :: diskA pd (newD 100) :: blk b1 [.int .i64 1, .int .i64 1, .int .i64 16, .int .i64 18, .int .i64 64, .int .i64 hh, .int .i64 0] 33 :: tblA pt :: A :: R) w := H'
    clear H'
    have H' := H.pick 7 [2, 5, 3, 0, 1, 4, 6] rfl
    have H : Sep z (blk pl [.pointer (some ⟨pd, 0, none⟩), .pointer (some ⟨pt, 0, none⟩), .int .i64 ((sP 1 hh 0).gen), .int .i64 ((sP 1 hh 0).epoch), .int .i64 ((sP 1 hh 0).pages), .int .i64 ((sP 1 hh 0).start), .int .i64 ((sP 1 hh 0).len), .int .i64 ((sP 1 hh 0).head), .int .i64 ((sP 1 hh 0).seq), .int .i64 ((sP 1 hh 0).head), .int .i64 ((sP 1 hh 0).seq), .int .i64 0, .bool false, .bool (decide ((sP 1 hh 0).epoch < 4294967296))] 77 :: tblA pt :: diskA pd (newD 100) :: poolA (fun _ => none) :: grow 48 2 (.slice none 0 0) 0 [] :: blk b1 [.int .i64 1, .int .i64 1, .int .i64 16, .int .i64 18, .int .i64 64, .int .i64 hh, .int .i64 0] 33 :: A :: R) w := H'
    clear H'
    refine s_region ?_
    refine s_do rfl rfl rfl (d_assign rfl rfl) ?_
    refine s_end ?_
    refine k_block ?_
    refine c_loop (σ := Nat × List RcE × Value × Dsk × Int × Int × Int × Bool × Hp × Int × Int × Int × Int × Int × Nat × List (List UInt8) × Nat) (fun ⟨i, rl, v, D, a, q, u, b, hq, ep, hz, sq, h0, q0, su, ptl, plg⟩ => [(13, .int .i64 (i : Int)), (11, v), (12, .int .i64 (su : Int)), (10, .pointer (some ⟨plg, 0, none⟩)), (1, .slice ao es.length oc), (5, .pointer (some ⟨pt, 0, none⟩)), (6, .pointer (some ⟨pd, 0, none⟩)), (9, .pointer (some ⟨b1, 0, none⟩))])
      (fun ⟨i, rl, v, D, a, q, u, b, hq, ep, hz, sq, h0, q0, su, ptl, plg⟩ w => Sep z (blk plg [.pointer (some ⟨pd, 0, none⟩), .pointer (some ⟨pt, 0, none⟩), .int .i64 ((sP ep h0 q0).gen), .int .i64 ((sP ep h0 q0).epoch), .int .i64 ((sP ep h0 q0).pages), .int .i64 ((sP ep h0 q0).start), .int .i64 ((sP ep h0 q0).len), .int .i64 ((sP ep h0 q0).head), .int .i64 ((sP ep h0 q0).seq), .int .i64 a, .int .i64 q, .int .i64 u, .bool b, .bool (decide ((sP ep h0 q0).epoch < 4294967296))] 77 :: tblA pt :: diskA pd D :: poolA hq :: grow 48 2 v rl.length (rcC rl) :: blk b1 [.int .i64 1, .int .i64 ep, .int .i64 16, .int .i64 18, .int .i64 64, .int .i64 hz, .int .i64 sq] 33 :: A :: R) w ∧ (i ≤ es.length ∧ PInv D (sP ep hz sq) (rl.map Prod.fst) ptl a q u b su ∧ SOk (sP ep hz sq) ∧ (1 ≤ ep ∧ ep ≤ i + 1) ∧ (0 ≤ q ∧ q ≤ i) ∧ (0 ≤ h0 ∧ h0 < 64 ∧ 0 ≤ q0 ∧ q0 ≤ i) ∧ (0 ≤ hz ∧ hz < 64 ∧ 0 ≤ sq ∧ sq ≤ q) ∧ D.n = 100 ∧ (∀ j, (D.ver j).length ≤ 2 * i) ∧ rcesOk rl hq ∧ rl.length ≤ i)) (fun ⟨i, rl, v, D, a, q, u, b, hq, ep, hz, sq, h0, q0, su, ptl, plg⟩ => es.length - i) ⟨0, [], .slice none 0 0, newD 100, (sP 1 hh 0).head, (sP 1 hh 0).seq, 0, false, (fun _ => none), 1, hh, 0, hh, 0, 0, [], pl⟩
      (fun _ hF => (hF.cons (hF.cons (hF.cons (hF.cons (hF.cons (hF.cons (hF.cons (hF.cons hF.nil 9 _ _ rfl rfl) 6 _ _ rfl rfl) 5 _ _ rfl rfl) 1 _ _ rfl rfl) 10 _ _ rfl rfl) 12 _ _ rfl (by go_num)) 11 _ _ rfl (by go_num)) 13 _ _ rfl (by go_num))) ⟨H, by omega, PInv.new hsok, hsok, by omega, by omega, by omega, by omega, rfl, fun j => by simp [newD], fun e he => absurd he (by simp), by simp⟩ ?_
    clear H; rintro ⟨i, rl, v, D, a, q, u, b, hq, ep, hz, sq, h0, q0, su, ptl, plg⟩ w ⟨H', hI⟩
    dsimp only at hI H' ⊢
    have H : Sep z (blk plg [.pointer (some ⟨pd, 0, none⟩), .pointer (some ⟨pt, 0, none⟩), .int .i64 ((sP ep h0 q0).gen), .int .i64 ((sP ep h0 q0).epoch), .int .i64 ((sP ep h0 q0).pages), .int .i64 ((sP ep h0 q0).start), .int .i64 ((sP ep h0 q0).len), .int .i64 ((sP ep h0 q0).head), .int .i64 ((sP ep h0 q0).seq), .int .i64 a, .int .i64 q, .int .i64 u, .bool b, .bool (decide ((sP ep h0 q0).epoch < 4294967296))] 77 :: tblA pt :: diskA pd D :: poolA hq :: grow 48 2 v rl.length (rcC rl) :: blk b1 [.int .i64 1, .int .i64 ep, .int .i64 16, .int .i64 18, .int .i64 64, .int .i64 hz, .int .i64 sq] 33 :: A :: R) w := H'
    clear H'
    have sv := H.says 4 rfl (fun h q => q.slc)
    obtain ⟨hin, hP, hsok, hep, hqi, hL, hS, hDn, hver, hrk, hrl⟩ := hI
    have hsP := sP_f ep hz sq
    have hsL := sP_f ep h0 q0
    have hpa := hP.at_ok hsok
    have hrll : (rl.map Prod.fst).length = rl.length := by simp
    have hfq := hP.fq
    have hsu := hP.sure
    rw [hrll] at hfq hsu
    have hqle : (sP ep hz sq).seq + rl.length ≤ q := by split at hfq <;> omega
    have hokP : (sP ep hz sq).Ok (100 : Int) := sP_ok (by omega) (by omega) (by omega)
    have hokL : (sP ep h0 q0).Ok (100 : Int) := sP_ok (by omega) (by omega) (by omega)
    refine k_seq ?_
    refine k_seq ?_
    refine s_region ?_
    refine s_do rfl rfl rfl (d_move rfl rfl) ?_
    refine s_do rfl rfl rfl (d_move rfl rfl) ?_
    refine s_do rfl rfl rfl (d_len rfl (z := 7) (by kernel_rfl) rfl) ?_
    refine s_do rfl rfl rfl (d_lss rfl rfl rfl) ?_
    refine s_end ?_
    refine k_dec rfl (fun h2 => ?_) (fun h2 => ?_)
    · -- yes: (i : Int) < (es.length : Int)
      refine k_skip ?_
      refine k_seq ?_
      refine k_block ?_
      refine k_seq ?_
      refine s_region ?_
      have hlt : i < es.length := by omega
      obtain ⟨⟨⟨om, pv, kv⟩, kl⟩, he⟩ : ∃ e, es[i]? = some e := ⟨_, List.getElem?_eq_getElem (by omega)⟩
      have he' : (es.map Prod.fst)[i]? = some (om, pv, kv) := by rw [List.getElem?_map, he]; rfl
      have hopi := H.says 6 rfl (fun h q => ((hA h q).2 _ (List.mem_of_getElem? he)).2.2)
      have hat := (H.rd 6 rfl (fun h q => (hA h q).1)).at (opC_get he' 0 _ rfl)
      have spv := H.says 6 rfl (fun h q => ((hA h q).2 _ (List.mem_of_getElem? he)).1.slc)
      have skv := H.says 6 rfl (fun h q => ((hA h q).2 _ (List.mem_of_getElem? he)).2.1.slc)
      refine s_do rfl rfl rfl (d_move rfl rfl) ?_
      refine s_do rfl rfl rfl (d_move rfl rfl) ?_
      refine s_do rfl rfl rfl (d_indexE rfl (z := 7) (j := i) (r := i * 7) (by kernel_rfl) rfl rfl rfl (by omega) hat (by omega)) ?_
      refine s_do rfl rfl rfl (d_loadAggE rfl rfl (vs := [.int .i64 om.k0, pv, .int .i64 om.kd, .int .i64 om.fl, .int .i64 om.k4, .int .i64 om.k5, kv]) (by kernel_rfl) (by simp) (here (fun k u hk => (H.rd 6 rfl (fun h q => (hA h q).1)).at (opC_get he' k u hk)))) ?_
      refine s_go rfl rfl rfl (n_alloc (P := Tryz.prog) H rfl (zs := [.int .i64 0, .slice none 0 0, .int .i64 0, .int .i64 0, .int .i64 0, .int .i64 0, .slice none 0 0]) (by kernel_rfl)) ?_
      rintro _ w ⟨b2, rfl, H'⟩
      have H : Sep z (blk b2 [.int .i64 0, .slice none 0 0, .int .i64 0, .int .i64 0, .int .i64 0, .int .i64 0, .slice none 0 0] 36 :: blk plg [.pointer (some ⟨pd, 0, none⟩), .pointer (some ⟨pt, 0, none⟩), .int .i64 ((sP ep h0 q0).gen), .int .i64 ((sP ep h0 q0).epoch), .int .i64 ((sP ep h0 q0).pages), .int .i64 ((sP ep h0 q0).start), .int .i64 ((sP ep h0 q0).len), .int .i64 ((sP ep h0 q0).head), .int .i64 ((sP ep h0 q0).seq), .int .i64 a, .int .i64 q, .int .i64 u, .bool b, .bool (decide ((sP ep h0 q0).epoch < 4294967296))] 77 :: tblA pt :: diskA pd D :: poolA hq :: grow 48 2 v rl.length (rcC rl) :: blk b1 [.int .i64 1, .int .i64 ep, .int .i64 16, .int .i64 18, .int .i64 64, .int .i64 hz, .int .i64 sq] 33 :: A :: R) w := H'
      clear H'
      refine s_put rfl rfl (n_store 0 H rfl rfl rfl rfl (vs := [.int .i64 om.k0, pv, .int .i64 om.kd, .int .i64 om.fl, .int .i64 om.k4, .int .i64 om.k5, kv]) rfl (one_cons rfl (one_cons spv.one (one_cons rfl (one_cons rfl (one_cons rfl (one_cons rfl (one_cons skv.one one_nil))))))) (by kernel_rfl) (by simp) (out := [.int .i64 om.k0, pv, .int .i64 om.kd, .int .i64 om.fl, .int .i64 om.k4, .int .i64 om.k5, kv]) rfl) ?_
      rintro w H'
      have H : Sep z (blk b2 [.int .i64 om.k0, pv, .int .i64 om.kd, .int .i64 om.fl, .int .i64 om.k4, .int .i64 om.k5, kv] 36 :: blk plg [.pointer (some ⟨pd, 0, none⟩), .pointer (some ⟨pt, 0, none⟩), .int .i64 ((sP ep h0 q0).gen), .int .i64 ((sP ep h0 q0).epoch), .int .i64 ((sP ep h0 q0).pages), .int .i64 ((sP ep h0 q0).start), .int .i64 ((sP ep h0 q0).len), .int .i64 ((sP ep h0 q0).head), .int .i64 ((sP ep h0 q0).seq), .int .i64 a, .int .i64 q, .int .i64 u, .bool b, .bool (decide ((sP ep h0 q0).epoch < 4294967296))] 77 :: tblA pt :: diskA pd D :: poolA hq :: grow 48 2 v rl.length (rcC rl) :: blk b1 [.int .i64 1, .int .i64 ep, .int .i64 16, .int .i64 18, .int .i64 64, .int .i64 hz, .int .i64 sq] 33 :: A :: R) w := H'
      clear H'
      refine s_end ?_
      refine k_seq ?_
      refine s_region ?_
      refine s_do rfl rfl rfl (d_field rfl (k := 0) (r := 0) (by kernel_rfl) rfl rfl) ?_
      refine s_do rfl rfl rfl (d_load rfl rfl (by kernel_rfl) (here (H.cel 0 rfl 0 rfl))) ?_
      refine s_end ?_
      refine k_block ?_
      refine k_seq ?_
      refine s_region ?_
      refine s_do rfl rfl rfl (d_eql rfl rfl rfl) ?_
      refine s_do rfl rfl rfl (d_assign rfl rfl) ?_
      refine s_end ?_
      refine k_dec rfl (fun h3 => ?_) (fun h3 => ?_)
      · -- yes: (om.k0 : Int) = 0
        refine k_seq ?_
        refine s_region ?_
        refine s_do rfl rfl rfl (d_move rfl rfl) ?_
        refine s_callC rfl rfl rfl rfl rfl (fun w => Tryz.call15 _ w) (tail_c _ _ _ _ _ _ _ _ _) H 2 [1, 0] rfl rfl ?_
        rintro _ w _ ⟨rfl, rfl⟩ H'
        have H : Sep z (blk plg [.pointer (some ⟨pd, 0, none⟩), .pointer (some ⟨pt, 0, none⟩), .int .i64 ((sP ep h0 q0).gen), .int .i64 ((sP ep h0 q0).epoch), .int .i64 ((sP ep h0 q0).pages), .int .i64 ((sP ep h0 q0).start), .int .i64 ((sP ep h0 q0).len), .int .i64 ((sP ep h0 q0).head), .int .i64 ((sP ep h0 q0).seq), .int .i64 a, .int .i64 q, .int .i64 u, .bool b, .bool (decide ((sP ep h0 q0).epoch < 4294967296))] 77 :: blk b2 [.int .i64 om.k0, pv, .int .i64 om.kd, .int .i64 om.fl, .int .i64 om.k4, .int .i64 om.k5, kv] 36 :: tblA pt :: diskA pd D :: poolA hq :: grow 48 2 v rl.length (rcC rl) :: blk b1 [.int .i64 1, .int .i64 ep, .int .i64 16, .int .i64 18, .int .i64 64, .int .i64 hz, .int .i64 sq] 33 :: A :: R) w := H'
        clear H'
        refine s_do rfl rfl rfl (d_move rfl rfl) ?_
        refine s_do rfl rfl rfl (d_extract rfl rfl rfl) ?_
        refine s_do rfl rfl rfl (d_extract rfl rfl rfl) ?_
        refine s_do rfl rfl rfl (d_assign rfl rfl) ?_
        refine s_do rfl rfl rfl (d_assign rfl rfl) ?_
        refine s_end ?_
        refine k_seq ?_
        refine s_region ?_
        refine s_do rfl rfl rfl (d_move rfl rfl) ?_
        refine s_do rfl rfl rfl (d_loadAgg rfl rfl (vs := [.int .i64 om.k0, pv, .int .i64 om.kd, .int .i64 om.fl, .int .i64 om.k4, .int .i64 om.k5, kv]) (by kernel_rfl) (here ((H.blk 1 rfl).part 0 7 _ rfl))) ?_
        refine s_callC rfl rfl rfl rfl rfl (fun w => Tryz.call10 _ w) (images_c _ _ _ _ _ _ _ om.ns _ (fun h q => ((hA h q).2 _ (List.mem_of_getElem? he)).1) skv.one hopi) H 8 [7, 0, 1, 2, 3, 4, 5, 6] rfl rfl ?_
        rintro v1 w _ ⟨hqi1, him1, rfl⟩ H'
        have H : Sep z (poolA hqi1 :: A :: blk plg [.pointer (some ⟨pd, 0, none⟩), .pointer (some ⟨pt, 0, none⟩), .int .i64 ((sP ep h0 q0).gen), .int .i64 ((sP ep h0 q0).epoch), .int .i64 ((sP ep h0 q0).pages), .int .i64 ((sP ep h0 q0).start), .int .i64 ((sP ep h0 q0).len), .int .i64 ((sP ep h0 q0).head), .int .i64 ((sP ep h0 q0).seq), .int .i64 a, .int .i64 q, .int .i64 u, .bool b, .bool (decide ((sP ep h0 q0).epoch < 4294967296))] 77 :: blk b2 [.int .i64 om.k0, pv, .int .i64 om.kd, .int .i64 om.fl, .int .i64 om.k4, .int .i64 om.k5, kv] 36 :: tblA pt :: diskA pd D :: poolA hq :: grow 48 2 v rl.length (rcC rl) :: blk b1 [.int .i64 1, .int .i64 ep, .int .i64 16, .int .i64 18, .int .i64 64, .int .i64 hz, .int .i64 sq] 33 :: R) w := H'
        clear H'
        have sv1 : Slc v1 (opImgs om.ns om.kd om.fl).length := by obtain ⟨ao, c, e⟩ := him1.slc; exact ⟨ao, c, e⟩
        refine s_callC rfl rfl rfl rfl rfl (fun w => Tryz.call9 _ w) (appendP_c _ _ _ (sP ep h0 q0) (sP ep hz sq) _ _ (opImgs om.ns om.kd om.fl) _ (fun h q => him1.le q) _ hP hsok rfl rfl rfl (by rw [hDn]; exact hokL) rfl (by omega) (fun j => by have := hver j; omega)) H 6 [2, 4, 5, 0, 1, 3] rfl rfl ?_
        rintro _ w _ (⟨Da, a2, q2, u2, hP2, hD2, hq2, rfl, rfl⟩ | ⟨c, Df, ptl2, a2, q2, u2, bb2, hcne, hP2, hD2, hq2, rfl, rfl⟩) H'
        · -- a case
          have H : Sep z (blk plg [.pointer (some ⟨pd, 0, none⟩), .pointer (some ⟨pt, 0, none⟩), .int .i64 ((sP ep h0 q0).gen), .int .i64 ((sP ep h0 q0).epoch), .int .i64 ((sP ep h0 q0).pages), .int .i64 ((sP ep h0 q0).start), .int .i64 ((sP ep h0 q0).len), .int .i64 ((sP ep h0 q0).head), .int .i64 ((sP ep h0 q0).seq), .int .i64 a2, .int .i64 q2, .int .i64 u2, .bool b, .bool (decide ((sP ep h0 q0).epoch < 4294967296))] 77 :: tblA pt :: diskA pd Da :: poolA hqi1 :: A :: blk b2 [.int .i64 om.k0, pv, .int .i64 om.kd, .int .i64 om.fl, .int .i64 om.k4, .int .i64 om.k5, kv] 36 :: poolA hq :: grow 48 2 v rl.length (rcC rl) :: blk b1 [.int .i64 1, .int .i64 ep, .int .i64 16, .int .i64 18, .int .i64 64, .int .i64 hz, .int .i64 sq] 33 :: R) w := H'
          clear H'
          refine s_do rfl rfl rfl (d_eql rfl rfl rfl) ?_
          refine k_updA 77 (u := .bool (decide ((0 : Int) = 0))) (v := .bool true) rfl (congrArg Value.bool (by decide)) ?_
          refine s_end ?_
          refine k_true rfl ?_
          refine s_region ?_
          refine s_do rfl rfl rfl (d_move rfl rfl) ?_
          refine s_do rfl rfl rfl (d_move rfl rfl) ?_
          refine s_do rfl rfl rfl (d_loadAgg rfl rfl (vs := [.int .i64 om.k0, pv, .int .i64 om.kd, .int .i64 om.fl, .int .i64 om.k4, .int .i64 om.k5, kv]) (by kernel_rfl) (here ((H.blk 5 rfl).part 0 7 _ rfl))) ?_
          refine s_callC rfl rfl rfl rfl rfl (fun w => Tryz.call10 _ w) (images_c _ _ _ _ _ _ _ om.ns _ (fun h q => ((hA h q).2 _ (List.mem_of_getElem? he)).1) skv.one hopi) H 5 [4, 0, 1, 2, 3] rfl rfl ?_
          rintro v2 w _ ⟨hqi2, him2, rfl⟩ H'
          have H : Sep z (poolA hqi2 :: A :: blk plg [.pointer (some ⟨pd, 0, none⟩), .pointer (some ⟨pt, 0, none⟩), .int .i64 ((sP ep h0 q0).gen), .int .i64 ((sP ep h0 q0).epoch), .int .i64 ((sP ep h0 q0).pages), .int .i64 ((sP ep h0 q0).start), .int .i64 ((sP ep h0 q0).len), .int .i64 ((sP ep h0 q0).head), .int .i64 ((sP ep h0 q0).seq), .int .i64 a2, .int .i64 q2, .int .i64 u2, .bool b, .bool (decide ((sP ep h0 q0).epoch < 4294967296))] 77 :: tblA pt :: diskA pd Da :: poolA hqi1 :: blk b2 [.int .i64 om.k0, pv, .int .i64 om.kd, .int .i64 om.fl, .int .i64 om.k4, .int .i64 om.k5, kv] 36 :: poolA hq :: grow 48 2 v rl.length (rcC rl) :: blk b1 [.int .i64 1, .int .i64 ep, .int .i64 16, .int .i64 18, .int .i64 64, .int .i64 hz, .int .i64 sq] 33 :: R) w := H'
          clear H'
          have sv2 : Slc v2 (opImgs om.ns om.kd om.fl).length := by obtain ⟨ao, c, e⟩ := him2.slc; exact ⟨ao, c, e⟩
          have H' := H.pick 10 [7, 0, 1, 2, 3, 4, 5, 6, 8, 9] rfl
          have H : Sep z (poolA hq :: poolA hqi2 :: A :: blk plg [.pointer (some ⟨pd, 0, none⟩), .pointer (some ⟨pt, 0, none⟩), .int .i64 ((sP ep h0 q0).gen), .int .i64 ((sP ep h0 q0).epoch), .int .i64 ((sP ep h0 q0).pages), .int .i64 ((sP ep h0 q0).start), .int .i64 ((sP ep h0 q0).len), .int .i64 ((sP ep h0 q0).head), .int .i64 ((sP ep h0 q0).seq), .int .i64 a2, .int .i64 q2, .int .i64 u2, .bool b, .bool (decide ((sP ep h0 q0).epoch < 4294967296))] 77 :: tblA pt :: diskA pd Da :: poolA hqi1 :: blk b2 [.int .i64 om.k0, pv, .int .i64 om.kd, .int .i64 om.fl, .int .i64 om.k4, .int .i64 om.k5, kv] 36 :: grow 48 2 v rl.length (rcC rl) :: blk b1 [.int .i64 1, .int .i64 ep, .int .i64 16, .int .i64 18, .int .i64 64, .int .i64 hz, .int .i64 sq] 33 :: R) w := H'
          clear H'
          obtain ⟨hqn, ⟨shqn, himn⟩, H'⟩ := pool_any H (M := imgsH v2 (opImgs om.ns om.kd om.fl)) (fun h q => him2.le q) (fun _ _ a b => a.le b)
          clear H
          have H : Sep z (poolA hqn :: A :: blk plg [.pointer (some ⟨pd, 0, none⟩), .pointer (some ⟨pt, 0, none⟩), .int .i64 ((sP ep h0 q0).gen), .int .i64 ((sP ep h0 q0).epoch), .int .i64 ((sP ep h0 q0).pages), .int .i64 ((sP ep h0 q0).start), .int .i64 ((sP ep h0 q0).len), .int .i64 ((sP ep h0 q0).head), .int .i64 ((sP ep h0 q0).seq), .int .i64 a2, .int .i64 q2, .int .i64 u2, .bool b, .bool (decide ((sP ep h0 q0).epoch < 4294967296))] 77 :: tblA pt :: diskA pd Da :: poolA hqi1 :: blk b2 [.int .i64 om.k0, pv, .int .i64 om.kd, .int .i64 om.fl, .int .i64 om.k4, .int .i64 om.k5, kv] 36 :: grow 48 2 v rl.length (rcC rl) :: blk b1 [.int .i64 1, .int .i64 ep, .int .i64 16, .int .i64 18, .int .i64 64, .int .i64 hz, .int .i64 sq] 33 :: R) w := H'
          clear H'
          obtain ⟨aoi, ci, hv2⟩ := himn.slc
          subst hv2
          refine s_do rfl rfl rfl (d_build rfl rfl (out := [.int .i64 q, .slice aoi ((opImgs om.ns om.kd om.fl).length) ci]) (by kernel_rfl)) ?_
          refine s_go rfl rfl rfl (n_buildSlice H rfl (by kernel_rfl) (Elt.mk (P := Tryz.prog) (e := 48) (z := .agg #[.int .i64 0, .slice none 0 0]) (sz := 2) (by_ := 32) (by kernel_rfl) rfl (by omega) (by omega)) rfl (by decide) (by decide) (out := [.int .i64 q, .slice aoi ((opImgs om.ns om.kd om.fl).length) ci]) (by kernel_rfl)) ?_
          rintro _ w ⟨b3, rfl, H'⟩
          have H : Sep z (blk b3 [.int .i64 q, .slice aoi ((opImgs om.ns om.kd om.fl).length) ci] 48 :: poolA hqn :: A :: blk plg [.pointer (some ⟨pd, 0, none⟩), .pointer (some ⟨pt, 0, none⟩), .int .i64 ((sP ep h0 q0).gen), .int .i64 ((sP ep h0 q0).epoch), .int .i64 ((sP ep h0 q0).pages), .int .i64 ((sP ep h0 q0).start), .int .i64 ((sP ep h0 q0).len), .int .i64 ((sP ep h0 q0).head), .int .i64 ((sP ep h0 q0).seq), .int .i64 a2, .int .i64 q2, .int .i64 u2, .bool b, .bool (decide ((sP ep h0 q0).epoch < 4294967296))] 77 :: tblA pt :: diskA pd Da :: poolA hqi1 :: blk b2 [.int .i64 om.k0, pv, .int .i64 om.kd, .int .i64 om.fl, .int .i64 om.k4, .int .i64 om.k5, kv] 36 :: grow 48 2 v rl.length (rcC rl) :: blk b1 [.int .i64 1, .int .i64 ep, .int .i64 16, .int .i64 18, .int .i64 64, .int .i64 hz, .int .i64 sq] 33 :: R) w := H'
          clear H'
          refine s_go rfl rfl rfl (n_append 8 H rfl rfl (by kernel_rfl) (Elt.mk (P := Tryz.prog) (e := 48) (z := .agg #[.int .i64 0, .slice none 0 0]) (sz := 2) (by_ := 32) (by kernel_rfl) rfl (by omega) (by omega)) rfl rfl (H.rd 0 rfl (fun h q => q.rd (by omega) (by omega) (by simp) rfl)) (one_cons rfl (one_cons rfl one_nil)) (by omega)) ?_
          rintro v4 w H'
          have H' : Sep z (blk b3 [.int .i64 q, .slice aoi ((opImgs om.ns om.kd om.fl).length) ci] 48 :: poolA hqn :: A :: blk plg [.pointer (some ⟨pd, 0, none⟩), .pointer (some ⟨pt, 0, none⟩), .int .i64 ((sP ep h0 q0).gen), .int .i64 ((sP ep h0 q0).epoch), .int .i64 ((sP ep h0 q0).pages), .int .i64 ((sP ep h0 q0).start), .int .i64 ((sP ep h0 q0).len), .int .i64 ((sP ep h0 q0).head), .int .i64 ((sP ep h0 q0).seq), .int .i64 a2, .int .i64 q2, .int .i64 u2, .bool b, .bool (decide ((sP ep h0 q0).epoch < 4294967296))] 77 :: tblA pt :: diskA pd Da :: poolA hqi1 :: blk b2 [.int .i64 om.k0, pv, .int .i64 om.kd, .int .i64 om.fl, .int .i64 om.k4, .int .i64 om.k5, kv] 36 :: grow 48 2 v4 (rl.length + 1) (rcC rl ++ [.int .i64 q, .slice aoi ((opImgs om.ns om.kd om.fl).length) ci]) :: blk b1 [.int .i64 1, .int .i64 ep, .int .i64 16, .int .i64 18, .int .i64 64, .int .i64 hz, .int .i64 sq] 33 :: R) w := H'
          have ev4 : (rcC rl ++ [.int .i64 q, .slice aoi ((opImgs om.ns om.kd om.fl).length) ci] : List Value) = rcC (rl ++ [(⟨q, opImgs om.ns om.kd om.fl⟩, (.slice aoi (opImgs om.ns om.kd om.fl).length ci))]) := rcC_snoc rl (⟨q, opImgs om.ns om.kd om.fl⟩, (.slice aoi (opImgs om.ns om.kd om.fl).length ci))
          rw [ev4] at H'
          rw [show (rl.length + 1 : Nat) = (rl ++ [((⟨q, opImgs om.ns om.kd om.fl⟩ : Rc), ((.slice aoi (opImgs om.ns om.kd om.fl).length ci) : Value))]).length from by simp] at H'
          have H : Sep z (blk b3 [.int .i64 q, .slice aoi ((opImgs om.ns om.kd om.fl).length) ci] 48 :: poolA hqn :: A :: blk plg [.pointer (some ⟨pd, 0, none⟩), .pointer (some ⟨pt, 0, none⟩), .int .i64 ((sP ep h0 q0).gen), .int .i64 ((sP ep h0 q0).epoch), .int .i64 ((sP ep h0 q0).pages), .int .i64 ((sP ep h0 q0).start), .int .i64 ((sP ep h0 q0).len), .int .i64 ((sP ep h0 q0).head), .int .i64 ((sP ep h0 q0).seq), .int .i64 a2, .int .i64 q2, .int .i64 u2, .bool b, .bool (decide ((sP ep h0 q0).epoch < 4294967296))] 77 :: tblA pt :: diskA pd Da :: poolA hqi1 :: blk b2 [.int .i64 om.k0, pv, .int .i64 om.kd, .int .i64 om.fl, .int .i64 om.k4, .int .i64 om.k5, kv] 36 :: grow 48 2 v4 ((rl ++ [((⟨q, opImgs om.ns om.kd om.fl⟩ : Rc), ((.slice aoi (opImgs om.ns om.kd om.fl).length ci) : Value))]).length) (rcC (rl ++ [(⟨q, opImgs om.ns om.kd om.fl⟩, (.slice aoi (opImgs om.ns om.kd om.fl).length ci))])) :: blk b1 [.int .i64 1, .int .i64 ep, .int .i64 16, .int .i64 18, .int .i64 64, .int .i64 hz, .int .i64 sq] 33 :: R) w := H'
          clear H'
          have sv4 := H.says 8 rfl (fun h q => q.slc)
          refine s_do rfl rfl rfl (d_assign rfl rfl) ?_
          refine s_end ?_
          refine s_region ?_
          refine s_do rfl rfl rfl (d_move rfl rfl) ?_
          refine s_do rfl rfl rfl (d_add64 rfl rfl rfl (r := (i : Int) + 1) (by omega) (by omega)) ?_
          refine s_do rfl rfl rfl (d_assign rfl rfl) ?_
          refine s_end ?_
          have H' := H.pick 10 [3, 4, 5, 1, 8, 9, 2] rfl
          have H : Sep z (blk plg [.pointer (some ⟨pd, 0, none⟩), .pointer (some ⟨pt, 0, none⟩), .int .i64 ((sP ep h0 q0).gen), .int .i64 ((sP ep h0 q0).epoch), .int .i64 ((sP ep h0 q0).pages), .int .i64 ((sP ep h0 q0).start), .int .i64 ((sP ep h0 q0).len), .int .i64 ((sP ep h0 q0).head), .int .i64 ((sP ep h0 q0).seq), .int .i64 a2, .int .i64 q2, .int .i64 u2, .bool b, .bool (decide ((sP ep h0 q0).epoch < 4294967296))] 77 :: tblA pt :: diskA pd Da :: poolA hqn :: grow 48 2 v4 ((rl ++ [((⟨q, opImgs om.ns om.kd om.fl⟩ : Rc), ((.slice aoi (opImgs om.ns om.kd om.fl).length ci) : Value))]).length) (rcC (rl ++ [(⟨q, opImgs om.ns om.kd om.fl⟩, (.slice aoi (opImgs om.ns om.kd om.fl).length ci))])) :: blk b1 [.int .i64 1, .int .i64 ep, .int .i64 16, .int .i64 18, .int .i64 64, .int .i64 hz, .int .i64 sq] 33 :: A :: R) w := H'
          clear H'
          intro _ hF
          refine ⟨⟨i + 1, rl ++ [(⟨q, opImgs om.ns om.kd om.fl⟩, (.slice aoi (opImgs om.ns om.kd om.fl).length ci))], v4, Da, a2, q2, u2, b, hqn, ep, hz, sq, h0, q0, su, [], plg⟩, (hF.cons (hF.cons (hF.cons (hF.cons (hF.cons (hF.cons (hF.cons (hF.cons hF.nil 9 _ _ rfl rfl) 6 _ _ rfl rfl) 5 _ _ rfl rfl) 1 _ _ rfl rfl) 10 _ _ rfl rfl) 12 _ _ rfl rfl) 11 _ _ rfl rfl) 13 _ _ rfl (by go_num)), ⟨H, ?_⟩, ?_⟩
          · refine ⟨by omega, by rw [List.map_append]; exact hP2, hsok, by (try dsimp only); omega, by (try dsimp only); omega, by (try dsimp only); omega, by (try dsimp only); omega, hD2.1.trans hDn, fun j => by have h1 := hD2.2 j; have h2 := hver j; dsimp only; omega, ?_, by dsimp only; simp; omega⟩
            intro e he; rcases List.mem_append.1 he with q | q
            · exact (hrk e q).le shqn
            · rw [List.mem_singleton.1 q]; exact himn
          · (dsimp only; omega)
        · -- a case
          have H : Sep z (blk plg [.pointer (some ⟨pd, 0, none⟩), .pointer (some ⟨pt, 0, none⟩), .int .i64 ((sP ep h0 q0).gen), .int .i64 ((sP ep h0 q0).epoch), .int .i64 ((sP ep h0 q0).pages), .int .i64 ((sP ep h0 q0).start), .int .i64 ((sP ep h0 q0).len), .int .i64 ((sP ep h0 q0).head), .int .i64 ((sP ep h0 q0).seq), .int .i64 a2, .int .i64 q2, .int .i64 u2, .bool bb2, .bool (decide ((sP ep h0 q0).epoch < 4294967296))] 77 :: tblA pt :: diskA pd Df :: poolA hqi1 :: A :: blk b2 [.int .i64 om.k0, pv, .int .i64 om.kd, .int .i64 om.fl, .int .i64 om.k4, .int .i64 om.k5, kv] 36 :: poolA hq :: grow 48 2 v rl.length (rcC rl) :: blk b1 [.int .i64 1, .int .i64 ep, .int .i64 16, .int .i64 18, .int .i64 64, .int .i64 hz, .int .i64 sq] 33 :: R) w := H'
          clear H'
          refine s_do rfl rfl rfl (d_eql rfl rfl rfl) ?_
          refine s_end ?_
          refine k_dec rfl (fun h4 => ?_) (fun h4 => ?_)
          · exact absurd h4 hcne
          · -- no: (c : Int) = 0
            refine k_skip ?_
            refine s_region ?_
            refine s_do rfl rfl rfl (d_move rfl rfl) ?_
            refine s_do rfl rfl rfl (d_add64 rfl rfl rfl (r := (i : Int) + 1) (by omega) (by omega)) ?_
            refine s_do rfl rfl rfl (d_assign rfl rfl) ?_
            refine s_end ?_
            have H' := H.pick 9 [0, 1, 2, 6, 7, 8, 4] rfl
            have H : Sep z (blk plg [.pointer (some ⟨pd, 0, none⟩), .pointer (some ⟨pt, 0, none⟩), .int .i64 ((sP ep h0 q0).gen), .int .i64 ((sP ep h0 q0).epoch), .int .i64 ((sP ep h0 q0).pages), .int .i64 ((sP ep h0 q0).start), .int .i64 ((sP ep h0 q0).len), .int .i64 ((sP ep h0 q0).head), .int .i64 ((sP ep h0 q0).seq), .int .i64 a2, .int .i64 q2, .int .i64 u2, .bool bb2, .bool (decide ((sP ep h0 q0).epoch < 4294967296))] 77 :: tblA pt :: diskA pd Df :: poolA hq :: grow 48 2 v rl.length (rcC rl) :: blk b1 [.int .i64 1, .int .i64 ep, .int .i64 16, .int .i64 18, .int .i64 64, .int .i64 hz, .int .i64 sq] 33 :: A :: R) w := H'
            clear H'
            intro _ hF
            refine ⟨⟨i + 1, rl, v, Df, a2, q2, u2, bb2, hq, ep, hz, sq, h0, q0, su, ptl2, plg⟩, (hF.cons (hF.cons (hF.cons (hF.cons (hF.cons (hF.cons (hF.cons (hF.cons hF.nil 9 _ _ rfl rfl) 6 _ _ rfl rfl) 5 _ _ rfl rfl) 1 _ _ rfl rfl) 10 _ _ rfl rfl) 12 _ _ rfl rfl) 11 _ _ rfl rfl) 13 _ _ rfl (by go_num)), ⟨H, ?_⟩, ?_⟩
            · exact ⟨by omega, hP2, hsok, by (try dsimp only); omega, by (try dsimp only); omega, by (try dsimp only); omega, by (try dsimp only); omega, hD2.1.trans hDn, fun j => by have h1 := hD2.2 j; have h2 := hver j; dsimp only; omega, hrk, by (try dsimp only); omega⟩
            · (dsimp only; omega)
      · -- no: (om.k0 : Int) = 0
        refine k_seq ?_
        refine s_region ?_
        refine s_do rfl rfl rfl (d_eql rfl rfl rfl) ?_
        refine s_do rfl rfl rfl (d_assign rfl rfl) ?_
        refine s_end ?_
        refine k_dec rfl (fun h5 => ?_) (fun h5 => ?_)
        · -- yes: (om.k0 : Int) = 1
          refine k_seq ?_
          refine k_seq ?_
          refine s_region ?_
          refine s_do rfl rfl rfl (d_move rfl rfl) ?_
          refine s_callC rfl rfl rfl rfl rfl (fun w => Tryz.call16 _ w) (flush_c _ _) H 4 [3, 0, 1, 2] rfl rfl ?_
          rintro _ w _ (⟨hf, rfl, rfl⟩ | ⟨hf, rfl, rfl⟩) H'
          · -- a case
            have H : Sep z (diskA pd ({ D with f3 := tick D.f3 }) :: blk b2 [.int .i64 om.k0, pv, .int .i64 om.kd, .int .i64 om.fl, .int .i64 om.k4, .int .i64 om.k5, kv] 36 :: blk plg [.pointer (some ⟨pd, 0, none⟩), .pointer (some ⟨pt, 0, none⟩), .int .i64 ((sP ep h0 q0).gen), .int .i64 ((sP ep h0 q0).epoch), .int .i64 ((sP ep h0 q0).pages), .int .i64 ((sP ep h0 q0).start), .int .i64 ((sP ep h0 q0).len), .int .i64 ((sP ep h0 q0).head), .int .i64 ((sP ep h0 q0).seq), .int .i64 a, .int .i64 q, .int .i64 u, .bool b, .bool (decide ((sP ep h0 q0).epoch < 4294967296))] 77 :: tblA pt :: poolA hq :: grow 48 2 v rl.length (rcC rl) :: blk b1 [.int .i64 1, .int .i64 ep, .int .i64 16, .int .i64 18, .int .i64 64, .int .i64 hz, .int .i64 sq] 33 :: A :: R) w := H'
            clear H'
            refine s_do rfl rfl rfl (d_neq rfl rfl rfl) ?_
            refine k_updA 89 (u := .bool (decide ((12 : Int) ≠ 0))) (v := .bool true) rfl (congrArg Value.bool (by decide)) ?_
            refine s_end ?_
            refine k_true rfl ?_
            refine k_exit ?_
            refine k_out rfl ?_
            refine k_here ?_
            refine s_region ?_
            refine s_do rfl rfl rfl (d_move rfl rfl) ?_
            refine s_do rfl rfl rfl (d_add64 rfl rfl rfl (r := (i : Int) + 1) (by omega) (by omega)) ?_
            refine s_do rfl rfl rfl (d_assign rfl rfl) ?_
            refine s_end ?_
            have H' := H.pick 8 [2, 3, 0, 4, 5, 6, 7] rfl
            have H : Sep z (blk plg [.pointer (some ⟨pd, 0, none⟩), .pointer (some ⟨pt, 0, none⟩), .int .i64 ((sP ep h0 q0).gen), .int .i64 ((sP ep h0 q0).epoch), .int .i64 ((sP ep h0 q0).pages), .int .i64 ((sP ep h0 q0).start), .int .i64 ((sP ep h0 q0).len), .int .i64 ((sP ep h0 q0).head), .int .i64 ((sP ep h0 q0).seq), .int .i64 a, .int .i64 q, .int .i64 u, .bool b, .bool (decide ((sP ep h0 q0).epoch < 4294967296))] 77 :: tblA pt :: diskA pd ({ D with f3 := tick D.f3 }) :: poolA hq :: grow 48 2 v rl.length (rcC rl) :: blk b1 [.int .i64 1, .int .i64 ep, .int .i64 16, .int .i64 18, .int .i64 64, .int .i64 hz, .int .i64 sq] 33 :: A :: R) w := H'
            clear H'
            intro _ hF
            refine ⟨⟨i + 1, rl, v, ({ D with f3 := tick D.f3 }), a, q, u, b, hq, ep, hz, sq, h0, q0, su, ptl, plg⟩, (hF.cons (hF.cons (hF.cons (hF.cons (hF.cons (hF.cons (hF.cons (hF.cons hF.nil 9 _ _ rfl rfl) 6 _ _ rfl rfl) 5 _ _ rfl rfl) 1 _ _ rfl rfl) 10 _ _ rfl rfl) 12 _ _ rfl rfl) 11 _ _ rfl rfl) 13 _ _ rfl (by go_num)), ⟨H, ?_⟩, ?_⟩
            · exact ⟨by omega, hP.f rfl rfl, hsok, by (try dsimp only); omega, by (try dsimp only); omega, by (try dsimp only); omega, by (try dsimp only); omega, hDn, fun j => by have h2 := hver j; dsimp only; omega, hrk, by (try dsimp only); omega⟩
            · (dsimp only; omega)
          · -- a case
            have H : Sep z (diskA pd D.fl :: blk b2 [.int .i64 om.k0, pv, .int .i64 om.kd, .int .i64 om.fl, .int .i64 om.k4, .int .i64 om.k5, kv] 36 :: blk plg [.pointer (some ⟨pd, 0, none⟩), .pointer (some ⟨pt, 0, none⟩), .int .i64 ((sP ep h0 q0).gen), .int .i64 ((sP ep h0 q0).epoch), .int .i64 ((sP ep h0 q0).pages), .int .i64 ((sP ep h0 q0).start), .int .i64 ((sP ep h0 q0).len), .int .i64 ((sP ep h0 q0).head), .int .i64 ((sP ep h0 q0).seq), .int .i64 a, .int .i64 q, .int .i64 u, .bool b, .bool (decide ((sP ep h0 q0).epoch < 4294967296))] 77 :: tblA pt :: poolA hq :: grow 48 2 v rl.length (rcC rl) :: blk b1 [.int .i64 1, .int .i64 ep, .int .i64 16, .int .i64 18, .int .i64 64, .int .i64 hz, .int .i64 sq] 33 :: A :: R) w := H'
            clear H'
            refine s_do rfl rfl rfl (d_neq rfl rfl rfl) ?_
            refine k_updA 89 (u := .bool (decide ((0 : Int) ≠ 0))) (v := .bool false) rfl (congrArg Value.bool (by decide)) ?_
            refine s_end ?_
            refine k_false rfl ?_
            refine k_skip ?_
            refine k_seq ?_
            refine s_region ?_
            refine s_do rfl rfl rfl (d_move rfl rfl) ?_
            refine s_callC rfl rfl rfl rfl rfl (fun w => Tryz.call11 _ w) (drop_c _ _ _ _ _ _ _ _ _) H 3 [2, 0, 1] rfl rfl ?_
            rintro _ w _ ⟨rfl, rfl⟩ H'
            have H : Sep z (blk plg [.pointer (some ⟨pd, 0, none⟩), .pointer (some ⟨pt, 0, none⟩), .int .i64 ((sP ep h0 q0).gen), .int .i64 ((sP ep h0 q0).epoch), .int .i64 ((sP ep h0 q0).pages), .int .i64 ((sP ep h0 q0).start), .int .i64 ((sP ep h0 q0).len), .int .i64 ((sP ep h0 q0).head), .int .i64 ((sP ep h0 q0).seq), .int .i64 a, .int .i64 q, .int .i64 0, .bool false, .bool (decide ((sP ep h0 q0).epoch < 4294967296))] 77 :: diskA pd D.fl :: blk b2 [.int .i64 om.k0, pv, .int .i64 om.kd, .int .i64 om.fl, .int .i64 om.k4, .int .i64 om.k5, kv] 36 :: tblA pt :: poolA hq :: grow 48 2 v rl.length (rcC rl) :: blk b1 [.int .i64 1, .int .i64 ep, .int .i64 16, .int .i64 18, .int .i64 64, .int .i64 hz, .int .i64 sq] 33 :: A :: R) w := H'
            clear H'
            refine s_end ?_
            refine k_seq ?_
            refine s_region ?_
            refine s_do rfl rfl rfl (d_move rfl rfl) ?_
            refine s_callC rfl rfl rfl rfl rfl (fun w => Tryz.call15 _ w) (tail_c _ _ _ _ _ _ _ _ _) H 1 [0] rfl rfl ?_
            rintro _ w _ ⟨rfl, rfl⟩ H'
            have H : Sep z (blk plg [.pointer (some ⟨pd, 0, none⟩), .pointer (some ⟨pt, 0, none⟩), .int .i64 ((sP ep h0 q0).gen), .int .i64 ((sP ep h0 q0).epoch), .int .i64 ((sP ep h0 q0).pages), .int .i64 ((sP ep h0 q0).start), .int .i64 ((sP ep h0 q0).len), .int .i64 ((sP ep h0 q0).head), .int .i64 ((sP ep h0 q0).seq), .int .i64 a, .int .i64 q, .int .i64 0, .bool false, .bool (decide ((sP ep h0 q0).epoch < 4294967296))] 77 :: diskA pd D.fl :: blk b2 [.int .i64 om.k0, pv, .int .i64 om.kd, .int .i64 om.fl, .int .i64 om.k4, .int .i64 om.k5, kv] 36 :: tblA pt :: poolA hq :: grow 48 2 v rl.length (rcC rl) :: blk b1 [.int .i64 1, .int .i64 ep, .int .i64 16, .int .i64 18, .int .i64 64, .int .i64 hz, .int .i64 sq] 33 :: A :: R) w := H'
            clear H'
            refine s_do rfl rfl rfl (d_move rfl rfl) ?_
            refine s_do rfl rfl rfl (d_extract rfl rfl rfl) ?_
            refine s_do rfl rfl rfl (d_extract rfl rfl rfl) ?_
            refine s_do rfl rfl rfl (d_assign rfl rfl) ?_
            refine s_do rfl rfl rfl (d_assign rfl rfl) ?_
            refine s_end ?_
            refine k_seq ?_
            refine s_region ?_
            refine s_do rfl rfl rfl (d_move rfl rfl) ?_
            refine s_do rfl rfl rfl (d_field rfl (k := 5) (r := 5) (by kernel_rfl) rfl rfl) ?_
            refine s_put rfl rfl (n_store 6 H rfl rfl rfl rfl (vs := [.int .i64 a]) rfl (by simp [u8, u32, Value.oneCell']) (by kernel_rfl) (by simp) (out := [.int .i64 1, .int .i64 ep, .int .i64 16, .int .i64 18, .int .i64 64, .int .i64 a, .int .i64 sq]) rfl) ?_
            rintro w H'
            have H : Sep z (blk plg [.pointer (some ⟨pd, 0, none⟩), .pointer (some ⟨pt, 0, none⟩), .int .i64 ((sP ep h0 q0).gen), .int .i64 ((sP ep h0 q0).epoch), .int .i64 ((sP ep h0 q0).pages), .int .i64 ((sP ep h0 q0).start), .int .i64 ((sP ep h0 q0).len), .int .i64 ((sP ep h0 q0).head), .int .i64 ((sP ep h0 q0).seq), .int .i64 a, .int .i64 q, .int .i64 0, .bool false, .bool (decide ((sP ep h0 q0).epoch < 4294967296))] 77 :: diskA pd D.fl :: blk b2 [.int .i64 om.k0, pv, .int .i64 om.kd, .int .i64 om.fl, .int .i64 om.k4, .int .i64 om.k5, kv] 36 :: tblA pt :: poolA hq :: grow 48 2 v rl.length (rcC rl) :: blk b1 [.int .i64 1, .int .i64 ep, .int .i64 16, .int .i64 18, .int .i64 64, .int .i64 a, .int .i64 sq] 33 :: A :: R) w := H'
            clear H'
            refine s_end ?_
            refine k_seq ?_
            refine s_region ?_
            refine s_do rfl rfl rfl (d_move rfl rfl) ?_
            refine s_do rfl rfl rfl (d_field rfl (k := 6) (r := 6) (by kernel_rfl) rfl rfl) ?_
            refine s_put rfl rfl (n_store 6 H rfl rfl rfl rfl (vs := [.int .i64 q]) rfl (by simp [u8, u32, Value.oneCell']) (by kernel_rfl) (by simp) (out := [.int .i64 1, .int .i64 ep, .int .i64 16, .int .i64 18, .int .i64 64, .int .i64 a, .int .i64 q]) rfl) ?_
            rintro w H'
            have H : Sep z (blk plg [.pointer (some ⟨pd, 0, none⟩), .pointer (some ⟨pt, 0, none⟩), .int .i64 ((sP ep h0 q0).gen), .int .i64 ((sP ep h0 q0).epoch), .int .i64 ((sP ep h0 q0).pages), .int .i64 ((sP ep h0 q0).start), .int .i64 ((sP ep h0 q0).len), .int .i64 ((sP ep h0 q0).head), .int .i64 ((sP ep h0 q0).seq), .int .i64 a, .int .i64 q, .int .i64 0, .bool false, .bool (decide ((sP ep h0 q0).epoch < 4294967296))] 77 :: diskA pd D.fl :: blk b2 [.int .i64 om.k0, pv, .int .i64 om.kd, .int .i64 om.fl, .int .i64 om.k4, .int .i64 om.k5, kv] 36 :: tblA pt :: poolA hq :: grow 48 2 v rl.length (rcC rl) :: blk b1 [.int .i64 1, .int .i64 ep, .int .i64 16, .int .i64 18, .int .i64 64, .int .i64 a, .int .i64 q] 33 :: A :: R) w := H'
            clear H'
            refine s_end ?_
            refine k_seq ?_
            have H' := H.pick 8 [0, 1, 2, 3, 4, 6, 7] rfl
            have H : Sep z (blk plg [.pointer (some ⟨pd, 0, none⟩), .pointer (some ⟨pt, 0, none⟩), .int .i64 ((sP ep h0 q0).gen), .int .i64 ((sP ep h0 q0).epoch), .int .i64 ((sP ep h0 q0).pages), .int .i64 ((sP ep h0 q0).start), .int .i64 ((sP ep h0 q0).len), .int .i64 ((sP ep h0 q0).head), .int .i64 ((sP ep h0 q0).seq), .int .i64 a, .int .i64 q, .int .i64 0, .bool false, .bool (decide ((sP ep h0 q0).epoch < 4294967296))] 77 :: diskA pd D.fl :: blk b2 [.int .i64 om.k0, pv, .int .i64 om.kd, .int .i64 om.fl, .int .i64 om.k4, .int .i64 om.k5, kv] 36 :: tblA pt :: poolA hq :: blk b1 [.int .i64 1, .int .i64 ep, .int .i64 16, .int .i64 18, .int .i64 64, .int .i64 a, .int .i64 q] 33 :: A :: R) w := H'
            clear H'
            have H' := H.nilg 48 2
            have H : Sep z (grow 48 2 (.slice none 0 0) 0 [] :: blk plg [.pointer (some ⟨pd, 0, none⟩), .pointer (some ⟨pt, 0, none⟩), .int .i64 ((sP ep h0 q0).gen), .int .i64 ((sP ep h0 q0).epoch), .int .i64 ((sP ep h0 q0).pages), .int .i64 ((sP ep h0 q0).start), .int .i64 ((sP ep h0 q0).len), .int .i64 ((sP ep h0 q0).head), .int .i64 ((sP ep h0 q0).seq), .int .i64 a, .int .i64 q, .int .i64 0, .bool false, .bool (decide ((sP ep h0 q0).epoch < 4294967296))] 77 :: diskA pd D.fl :: blk b2 [.int .i64 om.k0, pv, .int .i64 om.kd, .int .i64 om.fl, .int .i64 om.k4, .int .i64 om.k5, kv] 36 :: tblA pt :: poolA hq :: blk b1 [.int .i64 1, .int .i64 ep, .int .i64 16, .int .i64 18, .int .i64 64, .int .i64 a, .int .i64 q] 33 :: A :: R) w := H'
            clear H'
            refine s_region ?_
            refine s_do rfl rfl rfl (d_assign rfl rfl) ?_
            refine s_end ?_
            refine s_region ?_
            refine s_do rfl rfl rfl (d_assign rfl rfl) ?_
            refine s_end ?_
            refine s_region ?_
            refine s_do rfl rfl rfl (d_move rfl rfl) ?_
            refine s_do rfl rfl rfl (d_add64 rfl rfl rfl (r := (i : Int) + 1) (by omega) (by omega)) ?_
            refine s_do rfl rfl rfl (d_assign rfl rfl) ?_
            refine s_end ?_
            have H' := H.pick 8 [1, 4, 2, 5, 0, 6, 7] rfl
            have H : Sep z (blk plg [.pointer (some ⟨pd, 0, none⟩), .pointer (some ⟨pt, 0, none⟩), .int .i64 ((sP ep h0 q0).gen), .int .i64 ((sP ep h0 q0).epoch), .int .i64 ((sP ep h0 q0).pages), .int .i64 ((sP ep h0 q0).start), .int .i64 ((sP ep h0 q0).len), .int .i64 ((sP ep h0 q0).head), .int .i64 ((sP ep h0 q0).seq), .int .i64 a, .int .i64 q, .int .i64 0, .bool false, .bool (decide ((sP ep h0 q0).epoch < 4294967296))] 77 :: tblA pt :: diskA pd D.fl :: poolA hq :: grow 48 2 (.slice none 0 0) 0 [] :: blk b1 [.int .i64 1, .int .i64 ep, .int .i64 16, .int .i64 18, .int .i64 64, .int .i64 a, .int .i64 q] 33 :: A :: R) w := H'
            clear H'
            intro _ hF
            refine ⟨⟨i + 1, [], (.slice none 0 0), D.fl, a, q, 0, false, hq, ep, a, q, h0, q0, 0, [], plg⟩, (hF.cons (hF.cons (hF.cons (hF.cons (hF.cons (hF.cons (hF.cons (hF.cons hF.nil 9 _ _ rfl rfl) 6 _ _ rfl rfl) 5 _ _ rfl rfl) 1 _ _ rfl rfl) 10 _ _ rfl rfl) 12 _ _ rfl (by go_num)) 11 _ _ rfl (by go_num)) 13 _ _ rfl (by go_num)), ⟨H, ?_⟩, ?_⟩
            · dsimp only
              exact ⟨by omega, hP.flush.drop hsok (by omega) rfl rfl rfl rfl rfl (by show (0 : Int) ≤ 64; decide) hpa, sP_s (by omega) hpa (by omega), by (try dsimp only); omega, by (try dsimp only); omega, by (try dsimp only); omega, ⟨hpa.1, hpa.2, by (try dsimp only); omega⟩, hDn, fun j => by show ([] : List (List UInt8)).length ≤ _; simp, fun e he => absurd he (by simp), by simp⟩
            · (dsimp only; omega)
        · -- no: (om.k0 : Int) = 1
          refine k_seq ?_
          refine s_region ?_
          refine s_do rfl rfl rfl (d_eql rfl rfl rfl) ?_
          refine s_do rfl rfl rfl (d_assign rfl rfl) ?_
          refine s_end ?_
          refine k_dec rfl (fun h6 => ?_) (fun h6 => ?_)
          · -- yes: (om.k0 : Int) = 2
            refine k_seq ?_
            refine s_region ?_
            refine s_do rfl rfl rfl (d_move rfl rfl) ?_
            refine s_callC rfl rfl rfl rfl rfl (fun w => Tryz.call16 _ w) (flush_c _ _) H 4 [3, 0, 1, 2] rfl rfl ?_
            rintro _ w _ (⟨hf, rfl, rfl⟩ | ⟨hf, rfl, rfl⟩) H'
            · -- a case
              have H : Sep z (diskA pd ({ D with f3 := tick D.f3 }) :: blk b2 [.int .i64 om.k0, pv, .int .i64 om.kd, .int .i64 om.fl, .int .i64 om.k4, .int .i64 om.k5, kv] 36 :: blk plg [.pointer (some ⟨pd, 0, none⟩), .pointer (some ⟨pt, 0, none⟩), .int .i64 ((sP ep h0 q0).gen), .int .i64 ((sP ep h0 q0).epoch), .int .i64 ((sP ep h0 q0).pages), .int .i64 ((sP ep h0 q0).start), .int .i64 ((sP ep h0 q0).len), .int .i64 ((sP ep h0 q0).head), .int .i64 ((sP ep h0 q0).seq), .int .i64 a, .int .i64 q, .int .i64 u, .bool b, .bool (decide ((sP ep h0 q0).epoch < 4294967296))] 77 :: tblA pt :: poolA hq :: grow 48 2 v rl.length (rcC rl) :: blk b1 [.int .i64 1, .int .i64 ep, .int .i64 16, .int .i64 18, .int .i64 64, .int .i64 hz, .int .i64 sq] 33 :: A :: R) w := H'
              clear H'
              refine s_do rfl rfl rfl (d_eql rfl rfl rfl) ?_
              refine k_updA 105 (u := .bool (decide ((12 : Int) = 0))) (v := .bool false) rfl (congrArg Value.bool (by decide)) ?_
              refine s_end ?_
              refine k_false rfl ?_
              refine k_skip ?_
              refine s_region ?_
              refine s_do rfl rfl rfl (d_move rfl rfl) ?_
              refine s_do rfl rfl rfl (d_add64 rfl rfl rfl (r := (i : Int) + 1) (by omega) (by omega)) ?_
              refine s_do rfl rfl rfl (d_assign rfl rfl) ?_
              refine s_end ?_
              have H' := H.pick 8 [2, 3, 0, 4, 5, 6, 7] rfl
              have H : Sep z (blk plg [.pointer (some ⟨pd, 0, none⟩), .pointer (some ⟨pt, 0, none⟩), .int .i64 ((sP ep h0 q0).gen), .int .i64 ((sP ep h0 q0).epoch), .int .i64 ((sP ep h0 q0).pages), .int .i64 ((sP ep h0 q0).start), .int .i64 ((sP ep h0 q0).len), .int .i64 ((sP ep h0 q0).head), .int .i64 ((sP ep h0 q0).seq), .int .i64 a, .int .i64 q, .int .i64 u, .bool b, .bool (decide ((sP ep h0 q0).epoch < 4294967296))] 77 :: tblA pt :: diskA pd ({ D with f3 := tick D.f3 }) :: poolA hq :: grow 48 2 v rl.length (rcC rl) :: blk b1 [.int .i64 1, .int .i64 ep, .int .i64 16, .int .i64 18, .int .i64 64, .int .i64 hz, .int .i64 sq] 33 :: A :: R) w := H'
              clear H'
              intro _ hF
              refine ⟨⟨i + 1, rl, v, ({ D with f3 := tick D.f3 }), a, q, u, b, hq, ep, hz, sq, h0, q0, su, ptl, plg⟩, (hF.cons (hF.cons (hF.cons (hF.cons (hF.cons (hF.cons (hF.cons (hF.cons hF.nil 9 _ _ rfl rfl) 6 _ _ rfl rfl) 5 _ _ rfl rfl) 1 _ _ rfl rfl) 10 _ _ rfl rfl) 12 _ _ rfl rfl) 11 _ _ rfl rfl) 13 _ _ rfl (by go_num)), ⟨H, ?_⟩, ?_⟩
              · exact ⟨by omega, hP.f rfl rfl, hsok, by (try dsimp only); omega, by (try dsimp only); omega, by (try dsimp only); omega, by (try dsimp only); omega, hDn, fun j => by have h2 := hver j; dsimp only; omega, hrk, by (try dsimp only); omega⟩
              · (dsimp only; omega)
            · -- a case
              have H : Sep z (diskA pd D.fl :: blk b2 [.int .i64 om.k0, pv, .int .i64 om.kd, .int .i64 om.fl, .int .i64 om.k4, .int .i64 om.k5, kv] 36 :: blk plg [.pointer (some ⟨pd, 0, none⟩), .pointer (some ⟨pt, 0, none⟩), .int .i64 ((sP ep h0 q0).gen), .int .i64 ((sP ep h0 q0).epoch), .int .i64 ((sP ep h0 q0).pages), .int .i64 ((sP ep h0 q0).start), .int .i64 ((sP ep h0 q0).len), .int .i64 ((sP ep h0 q0).head), .int .i64 ((sP ep h0 q0).seq), .int .i64 a, .int .i64 q, .int .i64 u, .bool b, .bool (decide ((sP ep h0 q0).epoch < 4294967296))] 77 :: tblA pt :: poolA hq :: grow 48 2 v rl.length (rcC rl) :: blk b1 [.int .i64 1, .int .i64 ep, .int .i64 16, .int .i64 18, .int .i64 64, .int .i64 hz, .int .i64 sq] 33 :: A :: R) w := H'
              clear H'
              refine s_do rfl rfl rfl (d_eql rfl rfl rfl) ?_
              refine k_updA 105 (u := .bool (decide ((0 : Int) = 0))) (v := .bool true) rfl (congrArg Value.bool (by decide)) ?_
              refine s_end ?_
              refine k_true rfl ?_
              refine s_region ?_
              refine s_do rfl rfl rfl (d_move rfl rfl) ?_
              refine s_do rfl rfl rfl (d_lenV rfl (sz := 2) (by kernel_rfl) rfl sv) ?_
              refine s_do rfl rfl rfl (d_assign rfl rfl) ?_
              refine s_end ?_
              refine s_region ?_
              refine s_do rfl rfl rfl (d_move rfl rfl) ?_
              refine s_do rfl rfl rfl (d_add64 rfl rfl rfl (r := (i : Int) + 1) (by omega) (by omega)) ?_
              refine s_do rfl rfl rfl (d_assign rfl rfl) ?_
              refine s_end ?_
              have H' := H.pick 8 [2, 3, 0, 4, 5, 6, 7] rfl
              have H : Sep z (blk plg [.pointer (some ⟨pd, 0, none⟩), .pointer (some ⟨pt, 0, none⟩), .int .i64 ((sP ep h0 q0).gen), .int .i64 ((sP ep h0 q0).epoch), .int .i64 ((sP ep h0 q0).pages), .int .i64 ((sP ep h0 q0).start), .int .i64 ((sP ep h0 q0).len), .int .i64 ((sP ep h0 q0).head), .int .i64 ((sP ep h0 q0).seq), .int .i64 a, .int .i64 q, .int .i64 u, .bool b, .bool (decide ((sP ep h0 q0).epoch < 4294967296))] 77 :: tblA pt :: diskA pd D.fl :: poolA hq :: grow 48 2 v rl.length (rcC rl) :: blk b1 [.int .i64 1, .int .i64 ep, .int .i64 16, .int .i64 18, .int .i64 64, .int .i64 hz, .int .i64 sq] 33 :: A :: R) w := H'
              clear H'
              intro _ hF
              refine ⟨⟨i + 1, rl, v, D.fl, a, q, u, b, hq, ep, hz, sq, h0, q0, rl.length, ptl, plg⟩, (hF.cons (hF.cons (hF.cons (hF.cons (hF.cons (hF.cons (hF.cons (hF.cons hF.nil 9 _ _ rfl rfl) 6 _ _ rfl rfl) 5 _ _ rfl rfl) 1 _ _ rfl rfl) 10 _ _ rfl rfl) 12 _ _ rfl rfl) 11 _ _ rfl rfl) 13 _ _ rfl (by go_num)), ⟨H, ?_⟩, ?_⟩
              · exact ⟨by omega, by have := hP.flush; rwa [hrll] at this, hsok, by (try dsimp only); omega, by (try dsimp only); omega, by (try dsimp only); omega, by (try dsimp only); omega, hDn, fun j => by show ([] : List (List UInt8)).length ≤ _; simp, hrk, by (try dsimp only); omega⟩
              · (dsimp only; omega)
          · -- no: (om.k0 : Int) = 2
            refine k_seq ?_
            refine s_region ?_
            refine s_do rfl rfl rfl (d_eql rfl rfl rfl) ?_
            refine s_do rfl rfl rfl (d_assign rfl rfl) ?_
            refine s_end ?_
            refine k_dec rfl (fun h7 => ?_) (fun h7 => ?_)
            · -- yes: (om.k0 : Int) = 3
              refine s_region ?_
              refine s_do rfl rfl rfl (d_move rfl rfl) ?_
              refine s_do rfl rfl rfl (d_field rfl (k := 4) (r := 4) (by kernel_rfl) rfl rfl) ?_
              refine s_do rfl rfl rfl (d_load rfl rfl (by kernel_rfl) (here (H.cel 0 rfl 4 rfl))) ?_
              refine s_do rfl rfl rfl (d_rem rfl rfl rfl (by decide)) ?_
              have hm1 := Int.tmod_lt_of_pos om.k4 (by decide : (0 : Int) < 2)
              have hm2 := Int.lt_tmod_of_pos om.k4 (by decide : (0 : Int) < 2)
              refine s_do rfl rfl rfl (d_add64 rfl rfl rfl (r := 2 + (om.k4.tmod 2)) (by omega) (by omega)) ?_
              refine s_do rfl rfl rfl (d_field rfl (k := 5) (r := 5) (by kernel_rfl) rfl rfl) ?_
              refine s_do rfl rfl rfl (d_load rfl rfl (by kernel_rfl) (here (H.cel 0 rfl 5 rfl))) ?_
              refine s_callC rfl rfl rfl rfl rfl (fun w => Tryz.call12 _ w) (failK_c _ _ _ _ (by omega)) H 4 [3, 0, 1, 2] rfl rfl ?_
              rintro _ w _ ⟨c, Dk, hDk, rfl, rfl⟩ H'
              have H : Sep z (diskA pd Dk :: blk b2 [.int .i64 om.k0, pv, .int .i64 om.kd, .int .i64 om.fl, .int .i64 om.k4, .int .i64 om.k5, kv] 36 :: blk plg [.pointer (some ⟨pd, 0, none⟩), .pointer (some ⟨pt, 0, none⟩), .int .i64 ((sP ep h0 q0).gen), .int .i64 ((sP ep h0 q0).epoch), .int .i64 ((sP ep h0 q0).pages), .int .i64 ((sP ep h0 q0).start), .int .i64 ((sP ep h0 q0).len), .int .i64 ((sP ep h0 q0).head), .int .i64 ((sP ep h0 q0).seq), .int .i64 a, .int .i64 q, .int .i64 u, .bool b, .bool (decide ((sP ep h0 q0).epoch < 4294967296))] 77 :: tblA pt :: poolA hq :: grow 48 2 v rl.length (rcC rl) :: blk b1 [.int .i64 1, .int .i64 ep, .int .i64 16, .int .i64 18, .int .i64 64, .int .i64 hz, .int .i64 sq] 33 :: A :: R) w := H'
              clear H'
              refine s_end ?_
              refine s_region ?_
              refine s_do rfl rfl rfl (d_move rfl rfl) ?_
              refine s_do rfl rfl rfl (d_add64 rfl rfl rfl (r := (i : Int) + 1) (by omega) (by omega)) ?_
              refine s_do rfl rfl rfl (d_assign rfl rfl) ?_
              refine s_end ?_
              have H' := H.pick 8 [2, 3, 0, 4, 5, 6, 7] rfl
              have H : Sep z (blk plg [.pointer (some ⟨pd, 0, none⟩), .pointer (some ⟨pt, 0, none⟩), .int .i64 ((sP ep h0 q0).gen), .int .i64 ((sP ep h0 q0).epoch), .int .i64 ((sP ep h0 q0).pages), .int .i64 ((sP ep h0 q0).start), .int .i64 ((sP ep h0 q0).len), .int .i64 ((sP ep h0 q0).head), .int .i64 ((sP ep h0 q0).seq), .int .i64 a, .int .i64 q, .int .i64 u, .bool b, .bool (decide ((sP ep h0 q0).epoch < 4294967296))] 77 :: tblA pt :: diskA pd Dk :: poolA hq :: grow 48 2 v rl.length (rcC rl) :: blk b1 [.int .i64 1, .int .i64 ep, .int .i64 16, .int .i64 18, .int .i64 64, .int .i64 hz, .int .i64 sq] 33 :: A :: R) w := H'
              clear H'
              intro _ hF
              refine ⟨⟨i + 1, rl, v, Dk, a, q, u, b, hq, ep, hz, sq, h0, q0, su, ptl, plg⟩, (hF.cons (hF.cons (hF.cons (hF.cons (hF.cons (hF.cons (hF.cons (hF.cons hF.nil 9 _ _ rfl rfl) 6 _ _ rfl rfl) 5 _ _ rfl rfl) 1 _ _ rfl rfl) 10 _ _ rfl rfl) 12 _ _ rfl rfl) 11 _ _ rfl rfl) 13 _ _ rfl (by go_num)), ⟨H, ?_⟩, ?_⟩
              · exact ⟨by omega, hP.f hDk.2.1 hDk.2.2, hsok, by (try dsimp only); omega, by (try dsimp only); omega, by (try dsimp only); omega, by (try dsimp only); omega, hDk.1.trans hDn, fun j => by have h2 := hver j; rw [hDk.2.2]; dsimp only; omega, hrk, by (try dsimp only); omega⟩
              · (dsimp only; omega)
            · -- no: (om.k0 : Int) = 3
              refine k_seq ?_
              refine s_region ?_
              refine s_do rfl rfl rfl (d_eql rfl rfl rfl) ?_
              refine s_do rfl rfl rfl (d_assign rfl rfl) ?_
              refine s_end ?_
              refine k_dec rfl (fun h8 => ?_) (fun h8 => ?_)
              · -- yes: (om.k0 : Int) = 4
                refine s_region ?_
                refine s_do rfl rfl rfl (d_move rfl rfl) ?_
                refine s_do rfl rfl rfl (d_field rfl (k := 5) (r := 5) (by kernel_rfl) rfl rfl) ?_
                refine s_do rfl rfl rfl (d_load rfl rfl (by kernel_rfl) (here (H.cel 0 rfl 5 rfl))) ?_
                refine s_callC rfl rfl rfl rfl rfl (fun w => Tryz.call17 _ w) (cutK_c _ _ _) H 4 [3, 0, 1, 2] rfl rfl ?_
                rintro _ w _ ⟨c, Dk, hDk, rfl, rfl⟩ H'
                have H : Sep z (diskA pd Dk :: blk b2 [.int .i64 om.k0, pv, .int .i64 om.kd, .int .i64 om.fl, .int .i64 om.k4, .int .i64 om.k5, kv] 36 :: blk plg [.pointer (some ⟨pd, 0, none⟩), .pointer (some ⟨pt, 0, none⟩), .int .i64 ((sP ep h0 q0).gen), .int .i64 ((sP ep h0 q0).epoch), .int .i64 ((sP ep h0 q0).pages), .int .i64 ((sP ep h0 q0).start), .int .i64 ((sP ep h0 q0).len), .int .i64 ((sP ep h0 q0).head), .int .i64 ((sP ep h0 q0).seq), .int .i64 a, .int .i64 q, .int .i64 u, .bool b, .bool (decide ((sP ep h0 q0).epoch < 4294967296))] 77 :: tblA pt :: poolA hq :: grow 48 2 v rl.length (rcC rl) :: blk b1 [.int .i64 1, .int .i64 ep, .int .i64 16, .int .i64 18, .int .i64 64, .int .i64 hz, .int .i64 sq] 33 :: A :: R) w := H'
                clear H'
                refine s_end ?_
                refine s_region ?_
                refine s_do rfl rfl rfl (d_move rfl rfl) ?_
                refine s_do rfl rfl rfl (d_add64 rfl rfl rfl (r := (i : Int) + 1) (by omega) (by omega)) ?_
                refine s_do rfl rfl rfl (d_assign rfl rfl) ?_
                refine s_end ?_
                have H' := H.pick 8 [2, 3, 0, 4, 5, 6, 7] rfl
                have H : Sep z (blk plg [.pointer (some ⟨pd, 0, none⟩), .pointer (some ⟨pt, 0, none⟩), .int .i64 ((sP ep h0 q0).gen), .int .i64 ((sP ep h0 q0).epoch), .int .i64 ((sP ep h0 q0).pages), .int .i64 ((sP ep h0 q0).start), .int .i64 ((sP ep h0 q0).len), .int .i64 ((sP ep h0 q0).head), .int .i64 ((sP ep h0 q0).seq), .int .i64 a, .int .i64 q, .int .i64 u, .bool b, .bool (decide ((sP ep h0 q0).epoch < 4294967296))] 77 :: tblA pt :: diskA pd Dk :: poolA hq :: grow 48 2 v rl.length (rcC rl) :: blk b1 [.int .i64 1, .int .i64 ep, .int .i64 16, .int .i64 18, .int .i64 64, .int .i64 hz, .int .i64 sq] 33 :: A :: R) w := H'
                clear H'
                intro _ hF
                refine ⟨⟨i + 1, rl, v, Dk, a, q, u, b, hq, ep, hz, sq, h0, q0, su, ptl, plg⟩, (hF.cons (hF.cons (hF.cons (hF.cons (hF.cons (hF.cons (hF.cons (hF.cons hF.nil 9 _ _ rfl rfl) 6 _ _ rfl rfl) 5 _ _ rfl rfl) 1 _ _ rfl rfl) 10 _ _ rfl rfl) 12 _ _ rfl rfl) 11 _ _ rfl rfl) 13 _ _ rfl (by go_num)), ⟨H, ?_⟩, ?_⟩
                · exact ⟨by omega, hP.f hDk.2.1 hDk.2.2, hsok, by (try dsimp only); omega, by (try dsimp only); omega, by (try dsimp only); omega, by (try dsimp only); omega, hDk.1.trans hDn, fun j => by have h2 := hver j; rw [hDk.2.2]; dsimp only; omega, hrk, by (try dsimp only); omega⟩
                · (dsimp only; omega)
              · -- no: (om.k0 : Int) = 4
                refine k_seq ?_
                refine s_region ?_
                refine s_do rfl rfl rfl (d_eql rfl rfl rfl) ?_
                refine s_do rfl rfl rfl (d_assign rfl rfl) ?_
                refine s_end ?_
                refine k_dec rfl (fun h9 => ?_) (fun h9 => ?_)
                · -- yes: (om.k0 : Int) = 5
                  refine k_seq ?_
                  refine s_region ?_
                  refine s_do rfl rfl rfl (d_move rfl rfl) ?_
                  refine s_do rfl rfl rfl (d_field rfl (k := 6) (r := 6) (by kernel_rfl) rfl rfl) ?_
                  refine s_do rfl rfl rfl (d_load rfl rfl (by kernel_rfl) (here (H.cel 0 rfl 6 rfl))) ?_
                  refine s_callC rfl rfl rfl rfl rfl (fun w => Tryz.call18 _ w) (crash_c _ _ _ kl _ (fun h q => ((hA h q).2 _ (List.mem_of_getElem? he)).2.1) (fun j => by have := hver j; omega)) H 8 [3, 7, 0, 1, 2, 4, 5, 6] rfl rfl ?_
                  rintro _ w _ ⟨Dc, hcr, hcl, rfl, rfl⟩ H'
                  have H : Sep z (diskA pd Dc :: A :: blk b2 [.int .i64 om.k0, pv, .int .i64 om.kd, .int .i64 om.fl, .int .i64 om.k4, .int .i64 om.k5, kv] 36 :: blk plg [.pointer (some ⟨pd, 0, none⟩), .pointer (some ⟨pt, 0, none⟩), .int .i64 ((sP ep h0 q0).gen), .int .i64 ((sP ep h0 q0).epoch), .int .i64 ((sP ep h0 q0).pages), .int .i64 ((sP ep h0 q0).start), .int .i64 ((sP ep h0 q0).len), .int .i64 ((sP ep h0 q0).head), .int .i64 ((sP ep h0 q0).seq), .int .i64 a, .int .i64 q, .int .i64 u, .bool b, .bool (decide ((sP ep h0 q0).epoch < 4294967296))] 77 :: tblA pt :: poolA hq :: grow 48 2 v rl.length (rcC rl) :: blk b1 [.int .i64 1, .int .i64 ep, .int .i64 16, .int .i64 18, .int .i64 64, .int .i64 hz, .int .i64 sq] 33 :: R) w := H'
                  clear H'
                  refine s_end ?_
                  refine k_seq ?_
                  refine s_region ?_
                  refine s_do rfl rfl rfl (d_move rfl rfl) ?_
                  refine s_do rfl rfl rfl (d_move rfl rfl) ?_
                  refine s_do rfl rfl rfl (d_loadAgg rfl rfl (vs := [.int .i64 1, .int .i64 ep, .int .i64 16, .int .i64 18, .int .i64 64, .int .i64 hz, .int .i64 sq]) (by kernel_rfl) (here ((H.blk 7 rfl).part 0 7 _ rfl))) ?_
                  refine s_callC rfl rfl rfl rfl rfl (fun w => Tryz.call19 _ w) (open_c _ _ (sP ep hz sq) _ (by rw [hcr.n, hDn]; exact hokP) hcl.1) H 5 [4, 0, 1, 2, 3] rfl rfl ?_
                  rintro _ w _ ⟨pl2, rs2, a2, q2, u2, v2, hq2, rfl, hruns2, hstop2, hrecs2, rfl⟩ H'
                  have H : Sep z (poolA hq2 :: blk pl2 [.pointer (some ⟨pd, 0, none⟩), .pointer (some ⟨pt, 0, none⟩), .int .i64 ((sP ep hz sq).gen), .int .i64 ((sP ep hz sq).epoch), .int .i64 ((sP ep hz sq).pages), .int .i64 ((sP ep hz sq).start), .int .i64 ((sP ep hz sq).len), .int .i64 ((sP ep hz sq).head), .int .i64 ((sP ep hz sq).seq), .int .i64 a2, .int .i64 q2, .int .i64 u2, .bool false, .bool (decide ((sP ep hz sq).epoch < 4294967296))] 77 :: tblA pt :: diskA pd Dc :: A :: blk b2 [.int .i64 om.k0, pv, .int .i64 om.kd, .int .i64 om.fl, .int .i64 om.k4, .int .i64 om.k5, kv] 36 :: blk plg [.pointer (some ⟨pd, 0, none⟩), .pointer (some ⟨pt, 0, none⟩), .int .i64 ((sP ep h0 q0).gen), .int .i64 ((sP ep h0 q0).epoch), .int .i64 ((sP ep h0 q0).pages), .int .i64 ((sP ep h0 q0).start), .int .i64 ((sP ep h0 q0).len), .int .i64 ((sP ep h0 q0).head), .int .i64 ((sP ep h0 q0).seq), .int .i64 a, .int .i64 q, .int .i64 u, .bool b, .bool (decide ((sP ep h0 q0).epoch < 4294967296))] 77 :: poolA hq :: grow 48 2 v rl.length (rcC rl) :: blk b1 [.int .i64 1, .int .i64 ep, .int .i64 16, .int .i64 18, .int .i64 64, .int .i64 hz, .int .i64 sq] 33 :: R) w := H'
                  clear H'
                  obtain ⟨hr1, hr2, hr3⟩ := hP.read hsok hcr (by omega) hruns2 hstop2
                  rw [hrll] at hr2
                  have hps2 := hruns2.pos (by omega)
                  have hpa2 : 0 ≤ a2 ∧ a2 < 64 := by rw [hps2.1, hsP.2.2.2.2.1]; omega
                  have sv2 := hrecs2.slc
                  refine s_do rfl rfl rfl (d_move rfl rfl) ?_
                  refine s_do rfl rfl rfl (d_extract rfl rfl rfl) ?_
                  refine s_do rfl rfl rfl (d_extract rfl rfl rfl) ?_
                  refine s_do rfl rfl rfl (d_extract rfl rfl rfl) ?_
                  refine s_do rfl rfl rfl (d_assign rfl rfl) ?_
                  refine s_do rfl rfl rfl (d_assign rfl rfl) ?_
                  refine s_do rfl rfl rfl (d_assign rfl rfl) ?_
                  refine s_end ?_
                  refine k_seq ?_
                  refine k_seq ?_
                  have sv := H.says 8 rfl (fun h q => q.slc)
                  obtain ⟨aov, cv, rfl⟩ := sv
                  have H : Sep z (poolA hq2 :: blk pl2 [.pointer (some ⟨pd, 0, none⟩), .pointer (some ⟨pt, 0, none⟩), .int .i64 ((sP ep hz sq).gen), .int .i64 ((sP ep hz sq).epoch), .int .i64 ((sP ep hz sq).pages), .int .i64 ((sP ep hz sq).start), .int .i64 ((sP ep hz sq).len), .int .i64 ((sP ep hz sq).head), .int .i64 ((sP ep hz sq).seq), .int .i64 a2, .int .i64 q2, .int .i64 u2, .bool false, .bool (decide ((sP ep hz sq).epoch < 4294967296))] 77 :: tblA pt :: diskA pd Dc :: A :: blk b2 [.int .i64 om.k0, pv, .int .i64 om.kd, .int .i64 om.fl, .int .i64 om.k4, .int .i64 om.k5, kv] 36 :: blk plg [.pointer (some ⟨pd, 0, none⟩), .pointer (some ⟨pt, 0, none⟩), .int .i64 ((sP ep h0 q0).gen), .int .i64 ((sP ep h0 q0).epoch), .int .i64 ((sP ep h0 q0).pages), .int .i64 ((sP ep h0 q0).start), .int .i64 ((sP ep h0 q0).len), .int .i64 ((sP ep h0 q0).head), .int .i64 ((sP ep h0 q0).seq), .int .i64 a, .int .i64 q, .int .i64 u, .bool b, .bool (decide ((sP ep h0 q0).epoch < 4294967296))] 77 :: poolA hq :: grow 48 2 (.slice aov rl.length cv) rl.length (rcC rl) :: blk b1 [.int .i64 1, .int .i64 ep, .int .i64 16, .int .i64 18, .int .i64 64, .int .i64 hz, .int .i64 sq] 33 :: R) w := H
                  have H' := H.pick 10 [7, 8, 0, 1, 2, 3, 4, 5, 6, 9] rfl
                  have H : Sep z (poolA hq :: grow 48 2 (.slice aov rl.length cv) rl.length (rcC rl) :: poolA hq2 :: blk pl2 [.pointer (some ⟨pd, 0, none⟩), .pointer (some ⟨pt, 0, none⟩), .int .i64 ((sP ep hz sq).gen), .int .i64 ((sP ep hz sq).epoch), .int .i64 ((sP ep hz sq).pages), .int .i64 ((sP ep hz sq).start), .int .i64 ((sP ep hz sq).len), .int .i64 ((sP ep hz sq).head), .int .i64 ((sP ep hz sq).seq), .int .i64 a2, .int .i64 q2, .int .i64 u2, .bool false, .bool (decide ((sP ep hz sq).epoch < 4294967296))] 77 :: tblA pt :: diskA pd Dc :: A :: blk b2 [.int .i64 om.k0, pv, .int .i64 om.kd, .int .i64 om.fl, .int .i64 om.k4, .int .i64 om.k5, kv] 36 :: blk plg [.pointer (some ⟨pd, 0, none⟩), .pointer (some ⟨pt, 0, none⟩), .int .i64 ((sP ep h0 q0).gen), .int .i64 ((sP ep h0 q0).epoch), .int .i64 ((sP ep h0 q0).pages), .int .i64 ((sP ep h0 q0).start), .int .i64 ((sP ep h0 q0).len), .int .i64 ((sP ep h0 q0).head), .int .i64 ((sP ep h0 q0).seq), .int .i64 a, .int .i64 q, .int .i64 u, .bool b, .bool (decide ((sP ep h0 q0).epoch < 4294967296))] 77 :: blk b1 [.int .i64 1, .int .i64 ep, .int .i64 16, .int .i64 18, .int .i64 64, .int .i64 hz, .int .i64 sq] 33 :: R) w := H'
                  clear H'
                  obtain ⟨hq5, ⟨shq5, hrd5⟩, H'⟩ := pool_rd H (fun h q => q.rd)
                  clear H
                  have H : Sep z (poolA hq5 :: poolA hq2 :: blk pl2 [.pointer (some ⟨pd, 0, none⟩), .pointer (some ⟨pt, 0, none⟩), .int .i64 ((sP ep hz sq).gen), .int .i64 ((sP ep hz sq).epoch), .int .i64 ((sP ep hz sq).pages), .int .i64 ((sP ep hz sq).start), .int .i64 ((sP ep hz sq).len), .int .i64 ((sP ep hz sq).head), .int .i64 ((sP ep hz sq).seq), .int .i64 a2, .int .i64 q2, .int .i64 u2, .bool false, .bool (decide ((sP ep hz sq).epoch < 4294967296))] 77 :: tblA pt :: diskA pd Dc :: A :: blk b2 [.int .i64 om.k0, pv, .int .i64 om.kd, .int .i64 om.fl, .int .i64 om.k4, .int .i64 om.k5, kv] 36 :: blk plg [.pointer (some ⟨pd, 0, none⟩), .pointer (some ⟨pt, 0, none⟩), .int .i64 ((sP ep h0 q0).gen), .int .i64 ((sP ep h0 q0).epoch), .int .i64 ((sP ep h0 q0).pages), .int .i64 ((sP ep h0 q0).start), .int .i64 ((sP ep h0 q0).len), .int .i64 ((sP ep h0 q0).head), .int .i64 ((sP ep h0 q0).seq), .int .i64 a, .int .i64 q, .int .i64 u, .bool b, .bool (decide ((sP ep h0 q0).epoch < 4294967296))] 77 :: blk b1 [.int .i64 1, .int .i64 ep, .int .i64 16, .int .i64 18, .int .i64 64, .int .i64 hz, .int .i64 sq] 33 :: R) w := H'
                  clear H'
                  obtain ⟨hq6, ⟨shq6, hrec6⟩, H'⟩ := pool_any H (M := recsH v2 rs2) (fun h q => hrecs2.le q) (fun _ _ a b => a.le b)
                  clear H
                  have H : Sep z (poolA hq6 :: blk pl2 [.pointer (some ⟨pd, 0, none⟩), .pointer (some ⟨pt, 0, none⟩), .int .i64 ((sP ep hz sq).gen), .int .i64 ((sP ep hz sq).epoch), .int .i64 ((sP ep hz sq).pages), .int .i64 ((sP ep hz sq).start), .int .i64 ((sP ep hz sq).len), .int .i64 ((sP ep hz sq).head), .int .i64 ((sP ep hz sq).seq), .int .i64 a2, .int .i64 q2, .int .i64 u2, .bool false, .bool (decide ((sP ep hz sq).epoch < 4294967296))] 77 :: tblA pt :: diskA pd Dc :: A :: blk b2 [.int .i64 om.k0, pv, .int .i64 om.kd, .int .i64 om.fl, .int .i64 om.k4, .int .i64 om.k5, kv] 36 :: blk plg [.pointer (some ⟨pd, 0, none⟩), .pointer (some ⟨pt, 0, none⟩), .int .i64 ((sP ep h0 q0).gen), .int .i64 ((sP ep h0 q0).epoch), .int .i64 ((sP ep h0 q0).pages), .int .i64 ((sP ep h0 q0).start), .int .i64 ((sP ep h0 q0).len), .int .i64 ((sP ep h0 q0).head), .int .i64 ((sP ep h0 q0).seq), .int .i64 a, .int .i64 q, .int .i64 u, .bool b, .bool (decide ((sP ep h0 q0).epoch < 4294967296))] 77 :: blk b1 [.int .i64 1, .int .i64 ep, .int .i64 16, .int .i64 18, .int .i64 64, .int .i64 hz, .int .i64 sq] 33 :: R) w := H'
                  clear H'
                  have hcv : rl.length ≤ cv := by obtain ⟨_, _, e, h1, _⟩ := hrd5; cases e; exact h1
                  have hrec7 : recsH (.slice aov rs2.length cv) rs2 hq6 := by have := recsH.upto (k := rs2.length) (hrd5.le shq6) (hrk.le (fun k o e => shq6 k o (shq5 k o e))) hr2; rwa [← hr3] at this
                  have sv2 : Slc v2 rs2.length := by obtain ⟨ao, c, e⟩ := sv2; exact ⟨ao, c, e⟩
                  refine s_region ?_
                  refine s_do rfl rfl rfl (d_move rfl rfl) ?_
                  refine s_do rfl rfl rfl (d_neq rfl rfl rfl) ?_
                  refine k_updA 139 (u := .bool (decide ((0 : Int) ≠ 0))) (v := .bool false) rfl (congrArg Value.bool (by decide)) ?_
                  refine s_do rfl rfl rfl (d_move rfl rfl) ?_
                  refine s_do rfl rfl rfl (d_move rfl rfl) ?_
                  refine s_do rfl rfl rfl (d_eql_pn rfl (by kernel_rfl) rfl rfl) ?_
                  refine s_do rfl rfl rfl (d_pick_f rfl rfl rfl) ?_
                  refine s_do rfl rfl rfl (d_move rfl rfl) ?_
                  refine s_do rfl rfl rfl (d_move rfl rfl) ?_
                  refine s_do rfl rfl rfl (d_lenV rfl (sz := 2) (by kernel_rfl) rfl sv2) ?_
                  refine s_do rfl rfl rfl (d_move rfl rfl) ?_
                  refine s_do rfl rfl rfl (d_lss rfl rfl rfl) ?_
                  refine s_do rfl rfl rfl (d_pick_f rfl rfl rfl) ?_
                  refine s_do rfl rfl rfl (d_move rfl rfl) ?_
                  refine s_part 150 rfl (fun h10 => ?_) (fun h10 => ?_)
                  · (exfalso; omega)
                  · -- no: (rs2.length : Int) < (su : Int)
                    refine s_do rfl rfl rfl (d_move rfl rfl) ?_
                    refine s_do rfl rfl rfl (d_lenV rfl (sz := 2) (by kernel_rfl) rfl sv2) ?_
                    refine s_do rfl rfl rfl (d_move rfl rfl) ?_
                    refine s_do rfl rfl rfl (d_len rfl (z := 2) (by kernel_rfl) rfl) ?_
                    refine s_do rfl rfl rfl (d_gtr rfl rfl rfl) ?_
                    refine s_do rfl rfl rfl (d_pick_f rfl rfl rfl) ?_
                    refine s_do rfl rfl rfl (d_move rfl rfl) ?_
                    refine s_part 157 rfl (fun h11 => ?_) (fun h11 => ?_)
                    · (exfalso; omega)
                    · -- no: (rl.length : Int) < (rs2.length : Int)
                      refine s_do rfl rfl rfl (d_move rfl rfl) ?_
                      refine s_do rfl rfl rfl (d_move rfl rfl) ?_
                      refine s_do rfl rfl rfl (d_move rfl rfl) ?_
                      refine s_do rfl rfl rfl (d_lenV rfl (sz := 2) (by kernel_rfl) rfl sv2) ?_
                      refine s_do rfl rfl rfl (d_sliceP rfl (z := 2) (k := rs2.length) (by kernel_rfl) rfl rfl (by omega)) ?_
                      refine s_callC rfl rfl rfl rfl rfl (fun w => Tryz.call20 _ w) (records_c _ _ rs2 _ hrec6 hrec7) H 1 [0] rfl rfl ?_
                      rintro _ w _ ⟨rfl, rfl⟩ H'
                      have H : Sep z (poolA hq6 :: blk pl2 [.pointer (some ⟨pd, 0, none⟩), .pointer (some ⟨pt, 0, none⟩), .int .i64 ((sP ep hz sq).gen), .int .i64 ((sP ep hz sq).epoch), .int .i64 ((sP ep hz sq).pages), .int .i64 ((sP ep hz sq).start), .int .i64 ((sP ep hz sq).len), .int .i64 ((sP ep hz sq).head), .int .i64 ((sP ep hz sq).seq), .int .i64 a2, .int .i64 q2, .int .i64 u2, .bool false, .bool (decide ((sP ep hz sq).epoch < 4294967296))] 77 :: tblA pt :: diskA pd Dc :: A :: blk b2 [.int .i64 om.k0, pv, .int .i64 om.kd, .int .i64 om.fl, .int .i64 om.k4, .int .i64 om.k5, kv] 36 :: blk plg [.pointer (some ⟨pd, 0, none⟩), .pointer (some ⟨pt, 0, none⟩), .int .i64 ((sP ep h0 q0).gen), .int .i64 ((sP ep h0 q0).epoch), .int .i64 ((sP ep h0 q0).pages), .int .i64 ((sP ep h0 q0).start), .int .i64 ((sP ep h0 q0).len), .int .i64 ((sP ep h0 q0).head), .int .i64 ((sP ep h0 q0).seq), .int .i64 a, .int .i64 q, .int .i64 u, .bool b, .bool (decide ((sP ep h0 q0).epoch < 4294967296))] 77 :: blk b1 [.int .i64 1, .int .i64 ep, .int .i64 16, .int .i64 18, .int .i64 64, .int .i64 hz, .int .i64 sq] 33 :: R) w := H'
                      clear H'
                      refine s_do rfl rfl rfl (d_not rfl rfl) ?_
                      refine s_do rfl rfl rfl (d_pick_f rfl rfl rfl) ?_
                      refine s_end ?_
                      refine k_false rfl ?_
                      refine k_skip ?_
                      refine k_seq ?_
                      refine s_region ?_
                      refine s_do rfl rfl rfl (d_move rfl rfl) ?_
                      refine s_callC rfl rfl rfl rfl rfl (fun w => Tryz.call15 _ w) (tail_c _ _ _ _ _ _ _ _ _) H 2 [1, 0] rfl rfl ?_
                      rintro _ w _ ⟨rfl, rfl⟩ H'
                      have H : Sep z (blk pl2 [.pointer (some ⟨pd, 0, none⟩), .pointer (some ⟨pt, 0, none⟩), .int .i64 ((sP ep hz sq).gen), .int .i64 ((sP ep hz sq).epoch), .int .i64 ((sP ep hz sq).pages), .int .i64 ((sP ep hz sq).start), .int .i64 ((sP ep hz sq).len), .int .i64 ((sP ep hz sq).head), .int .i64 ((sP ep hz sq).seq), .int .i64 a2, .int .i64 q2, .int .i64 u2, .bool false, .bool (decide ((sP ep hz sq).epoch < 4294967296))] 77 :: poolA hq6 :: tblA pt :: diskA pd Dc :: A :: blk b2 [.int .i64 om.k0, pv, .int .i64 om.kd, .int .i64 om.fl, .int .i64 om.k4, .int .i64 om.k5, kv] 36 :: blk plg [.pointer (some ⟨pd, 0, none⟩), .pointer (some ⟨pt, 0, none⟩), .int .i64 ((sP ep h0 q0).gen), .int .i64 ((sP ep h0 q0).epoch), .int .i64 ((sP ep h0 q0).pages), .int .i64 ((sP ep h0 q0).start), .int .i64 ((sP ep h0 q0).len), .int .i64 ((sP ep h0 q0).head), .int .i64 ((sP ep h0 q0).seq), .int .i64 a, .int .i64 q, .int .i64 u, .bool b, .bool (decide ((sP ep h0 q0).epoch < 4294967296))] 77 :: blk b1 [.int .i64 1, .int .i64 ep, .int .i64 16, .int .i64 18, .int .i64 64, .int .i64 hz, .int .i64 sq] 33 :: R) w := H'
                      clear H'
                      refine s_do rfl rfl rfl (d_move rfl rfl) ?_
                      refine s_do rfl rfl rfl (d_extract rfl rfl rfl) ?_
                      refine s_do rfl rfl rfl (d_extract rfl rfl rfl) ?_
                      refine s_do rfl rfl rfl (d_assign rfl rfl) ?_
                      refine s_do rfl rfl rfl (d_assign rfl rfl) ?_
                      refine s_end ?_
                      refine k_seq ?_
                      refine s_region ?_
                      refine s_do rfl rfl rfl (d_move rfl rfl) ?_
                      refine s_do rfl rfl rfl (d_field rfl (k := 5) (r := 5) (by kernel_rfl) rfl rfl) ?_
                      refine s_put rfl rfl (n_store 7 H rfl rfl rfl rfl (vs := [.int .i64 a2]) rfl (by simp [u8, u32, Value.oneCell']) (by kernel_rfl) (by simp) (out := [.int .i64 1, .int .i64 ep, .int .i64 16, .int .i64 18, .int .i64 64, .int .i64 a2, .int .i64 sq]) rfl) ?_
                      rintro w H'
                      have H : Sep z (blk pl2 [.pointer (some ⟨pd, 0, none⟩), .pointer (some ⟨pt, 0, none⟩), .int .i64 ((sP ep hz sq).gen), .int .i64 ((sP ep hz sq).epoch), .int .i64 ((sP ep hz sq).pages), .int .i64 ((sP ep hz sq).start), .int .i64 ((sP ep hz sq).len), .int .i64 ((sP ep hz sq).head), .int .i64 ((sP ep hz sq).seq), .int .i64 a2, .int .i64 q2, .int .i64 u2, .bool false, .bool (decide ((sP ep hz sq).epoch < 4294967296))] 77 :: poolA hq6 :: tblA pt :: diskA pd Dc :: A :: blk b2 [.int .i64 om.k0, pv, .int .i64 om.kd, .int .i64 om.fl, .int .i64 om.k4, .int .i64 om.k5, kv] 36 :: blk plg [.pointer (some ⟨pd, 0, none⟩), .pointer (some ⟨pt, 0, none⟩), .int .i64 ((sP ep h0 q0).gen), .int .i64 ((sP ep h0 q0).epoch), .int .i64 ((sP ep h0 q0).pages), .int .i64 ((sP ep h0 q0).start), .int .i64 ((sP ep h0 q0).len), .int .i64 ((sP ep h0 q0).head), .int .i64 ((sP ep h0 q0).seq), .int .i64 a, .int .i64 q, .int .i64 u, .bool b, .bool (decide ((sP ep h0 q0).epoch < 4294967296))] 77 :: blk b1 [.int .i64 1, .int .i64 ep, .int .i64 16, .int .i64 18, .int .i64 64, .int .i64 a2, .int .i64 sq] 33 :: R) w := H'
                      clear H'
                      refine s_end ?_
                      refine k_seq ?_
                      refine s_region ?_
                      refine s_do rfl rfl rfl (d_move rfl rfl) ?_
                      refine s_do rfl rfl rfl (d_field rfl (k := 6) (r := 6) (by kernel_rfl) rfl rfl) ?_
                      refine s_put rfl rfl (n_store 7 H rfl rfl rfl rfl (vs := [.int .i64 q2]) rfl (by simp [u8, u32, Value.oneCell']) (by kernel_rfl) (by simp) (out := [.int .i64 1, .int .i64 ep, .int .i64 16, .int .i64 18, .int .i64 64, .int .i64 a2, .int .i64 q2]) rfl) ?_
                      rintro w H'
                      have H : Sep z (blk pl2 [.pointer (some ⟨pd, 0, none⟩), .pointer (some ⟨pt, 0, none⟩), .int .i64 ((sP ep hz sq).gen), .int .i64 ((sP ep hz sq).epoch), .int .i64 ((sP ep hz sq).pages), .int .i64 ((sP ep hz sq).start), .int .i64 ((sP ep hz sq).len), .int .i64 ((sP ep hz sq).head), .int .i64 ((sP ep hz sq).seq), .int .i64 a2, .int .i64 q2, .int .i64 u2, .bool false, .bool (decide ((sP ep hz sq).epoch < 4294967296))] 77 :: poolA hq6 :: tblA pt :: diskA pd Dc :: A :: blk b2 [.int .i64 om.k0, pv, .int .i64 om.kd, .int .i64 om.fl, .int .i64 om.k4, .int .i64 om.k5, kv] 36 :: blk plg [.pointer (some ⟨pd, 0, none⟩), .pointer (some ⟨pt, 0, none⟩), .int .i64 ((sP ep h0 q0).gen), .int .i64 ((sP ep h0 q0).epoch), .int .i64 ((sP ep h0 q0).pages), .int .i64 ((sP ep h0 q0).start), .int .i64 ((sP ep h0 q0).len), .int .i64 ((sP ep h0 q0).head), .int .i64 ((sP ep h0 q0).seq), .int .i64 a, .int .i64 q, .int .i64 u, .bool b, .bool (decide ((sP ep h0 q0).epoch < 4294967296))] 77 :: blk b1 [.int .i64 1, .int .i64 ep, .int .i64 16, .int .i64 18, .int .i64 64, .int .i64 a2, .int .i64 q2] 33 :: R) w := H'
                      clear H'
                      refine s_end ?_
                      refine k_seq ?_
                      refine s_region ?_
                      refine s_do rfl rfl rfl (d_field rfl (k := 1) (r := 1) (by kernel_rfl) rfl rfl) ?_
                      refine s_do rfl rfl rfl (d_load rfl rfl (by kernel_rfl) (here (H.cel 7 rfl 1 rfl))) ?_
                      refine s_do rfl rfl rfl (d_add64 rfl rfl rfl (r := ep + 1) (by omega) (by omega)) ?_
                      refine s_do rfl rfl rfl (d_field rfl (k := 1) (r := 1) (by kernel_rfl) rfl rfl) ?_
                      refine s_put rfl rfl (n_store 7 H rfl rfl rfl rfl (vs := [.int .i64 (ep + 1)]) rfl (by simp [u8, u32, Value.oneCell']) (by kernel_rfl) (by simp) (out := [.int .i64 1, .int .i64 (ep + 1), .int .i64 16, .int .i64 18, .int .i64 64, .int .i64 a2, .int .i64 q2]) rfl) ?_
                      rintro w H'
                      have H : Sep z (blk pl2 [.pointer (some ⟨pd, 0, none⟩), .pointer (some ⟨pt, 0, none⟩), .int .i64 ((sP ep hz sq).gen), .int .i64 ((sP ep hz sq).epoch), .int .i64 ((sP ep hz sq).pages), .int .i64 ((sP ep hz sq).start), .int .i64 ((sP ep hz sq).len), .int .i64 ((sP ep hz sq).head), .int .i64 ((sP ep hz sq).seq), .int .i64 a2, .int .i64 q2, .int .i64 u2, .bool false, .bool (decide ((sP ep hz sq).epoch < 4294967296))] 77 :: poolA hq6 :: tblA pt :: diskA pd Dc :: A :: blk b2 [.int .i64 om.k0, pv, .int .i64 om.kd, .int .i64 om.fl, .int .i64 om.k4, .int .i64 om.k5, kv] 36 :: blk plg [.pointer (some ⟨pd, 0, none⟩), .pointer (some ⟨pt, 0, none⟩), .int .i64 ((sP ep h0 q0).gen), .int .i64 ((sP ep h0 q0).epoch), .int .i64 ((sP ep h0 q0).pages), .int .i64 ((sP ep h0 q0).start), .int .i64 ((sP ep h0 q0).len), .int .i64 ((sP ep h0 q0).head), .int .i64 ((sP ep h0 q0).seq), .int .i64 a, .int .i64 q, .int .i64 u, .bool b, .bool (decide ((sP ep h0 q0).epoch < 4294967296))] 77 :: blk b1 [.int .i64 1, .int .i64 (ep + 1), .int .i64 16, .int .i64 18, .int .i64 64, .int .i64 a2, .int .i64 q2] 33 :: R) w := H'
                      clear H'
                      refine s_end ?_
                      refine k_seq ?_
                      refine s_region ?_
                      refine s_do rfl rfl rfl (d_move rfl rfl) ?_
                      refine s_do rfl rfl rfl (d_move rfl rfl) ?_
                      refine s_do rfl rfl rfl (d_loadAgg rfl rfl (vs := [.int .i64 1, .int .i64 (ep + 1), .int .i64 16, .int .i64 18, .int .i64 64, .int .i64 a2, .int .i64 q2]) (by kernel_rfl) (here ((H.blk 7 rfl).part 0 7 _ rfl))) ?_
                      refine s_callC rfl rfl rfl rfl rfl (fun w => Tryz.call8 _ w) (lnewD_c _ _ _ (sP (ep + 1) a2 q2) (by rw [hcr.n, hDn]; exact sP_ok (by omega) hpa2 (by omega))) H 4 [3, 0, 1, 2] rfl rfl ?_
                      rintro _ w _ ⟨pl3, rfl, rfl⟩ H'
                      have H : Sep z (blk pl3 [.pointer (some ⟨pd, 0, none⟩), .pointer (some ⟨pt, 0, none⟩), .int .i64 ((sP (ep + 1) a2 q2).gen), .int .i64 ((sP (ep + 1) a2 q2).epoch), .int .i64 ((sP (ep + 1) a2 q2).pages), .int .i64 ((sP (ep + 1) a2 q2).start), .int .i64 ((sP (ep + 1) a2 q2).len), .int .i64 ((sP (ep + 1) a2 q2).head), .int .i64 ((sP (ep + 1) a2 q2).seq), .int .i64 ((sP (ep + 1) a2 q2).head), .int .i64 ((sP (ep + 1) a2 q2).seq), .int .i64 0, .bool false, .bool (decide ((sP (ep + 1) a2 q2).epoch < 4294967296))] 77 :: diskA pd Dc :: blk pl2 [.pointer (some ⟨pd, 0, none⟩), .pointer (some ⟨pt, 0, none⟩), .int .i64 ((sP ep hz sq).gen), .int .i64 ((sP ep hz sq).epoch), .int .i64 ((sP ep hz sq).pages), .int .i64 ((sP ep hz sq).start), .int .i64 ((sP ep hz sq).len), .int .i64 ((sP ep hz sq).head), .int .i64 ((sP ep hz sq).seq), .int .i64 a2, .int .i64 q2, .int .i64 u2, .bool false, .bool (decide ((sP ep hz sq).epoch < 4294967296))] 77 :: poolA hq6 :: tblA pt :: A :: blk b2 [.int .i64 om.k0, pv, .int .i64 om.kd, .int .i64 om.fl, .int .i64 om.k4, .int .i64 om.k5, kv] 36 :: blk plg [.pointer (some ⟨pd, 0, none⟩), .pointer (some ⟨pt, 0, none⟩), .int .i64 ((sP ep h0 q0).gen), .int .i64 ((sP ep h0 q0).epoch), .int .i64 ((sP ep h0 q0).pages), .int .i64 ((sP ep h0 q0).start), .int .i64 ((sP ep h0 q0).len), .int .i64 ((sP ep h0 q0).head), .int .i64 ((sP ep h0 q0).seq), .int .i64 a, .int .i64 q, .int .i64 u, .bool b, .bool (decide ((sP ep h0 q0).epoch < 4294967296))] 77 :: blk b1 [.int .i64 1, .int .i64 (ep + 1), .int .i64 16, .int .i64 18, .int .i64 64, .int .i64 a2, .int .i64 q2] 33 :: R) w := H'
                      clear H'
                      refine s_do rfl rfl rfl (d_assign rfl rfl) ?_
                      refine s_end ?_
                      refine k_seq ?_
                      refine k_seq ?_
                      refine s_region ?_
                      refine s_do rfl rfl rfl (d_move rfl rfl) ?_
                      refine s_do rfl rfl rfl (d_eql_pn rfl (by kernel_rfl) rfl rfl) ?_
                      refine s_end ?_
                      refine k_false rfl ?_
                      refine k_skip ?_
                      refine k_seq ?_
                      have H' := H.nilg 48 2
                      have H : Sep z (grow 48 2 (.slice none 0 0) 0 [] :: blk pl3 [.pointer (some ⟨pd, 0, none⟩), .pointer (some ⟨pt, 0, none⟩), .int .i64 ((sP (ep + 1) a2 q2).gen), .int .i64 ((sP (ep + 1) a2 q2).epoch), .int .i64 ((sP (ep + 1) a2 q2).pages), .int .i64 ((sP (ep + 1) a2 q2).start), .int .i64 ((sP (ep + 1) a2 q2).len), .int .i64 ((sP (ep + 1) a2 q2).head), .int .i64 ((sP (ep + 1) a2 q2).seq), .int .i64 ((sP (ep + 1) a2 q2).head), .int .i64 ((sP (ep + 1) a2 q2).seq), .int .i64 0, .bool false, .bool (decide ((sP (ep + 1) a2 q2).epoch < 4294967296))] 77 :: diskA pd Dc :: blk pl2 [.pointer (some ⟨pd, 0, none⟩), .pointer (some ⟨pt, 0, none⟩), .int .i64 ((sP ep hz sq).gen), .int .i64 ((sP ep hz sq).epoch), .int .i64 ((sP ep hz sq).pages), .int .i64 ((sP ep hz sq).start), .int .i64 ((sP ep hz sq).len), .int .i64 ((sP ep hz sq).head), .int .i64 ((sP ep hz sq).seq), .int .i64 a2, .int .i64 q2, .int .i64 u2, .bool false, .bool (decide ((sP ep hz sq).epoch < 4294967296))] 77 :: poolA hq6 :: tblA pt :: A :: blk b2 [.int .i64 om.k0, pv, .int .i64 om.kd, .int .i64 om.fl, .int .i64 om.k4, .int .i64 om.k5, kv] 36 :: blk plg [.pointer (some ⟨pd, 0, none⟩), .pointer (some ⟨pt, 0, none⟩), .int .i64 ((sP ep h0 q0).gen), .int .i64 ((sP ep h0 q0).epoch), .int .i64 ((sP ep h0 q0).pages), .int .i64 ((sP ep h0 q0).start), .int .i64 ((sP ep h0 q0).len), .int .i64 ((sP ep h0 q0).head), .int .i64 ((sP ep h0 q0).seq), .int .i64 a, .int .i64 q, .int .i64 u, .bool b, .bool (decide ((sP ep h0 q0).epoch < 4294967296))] 77 :: blk b1 [.int .i64 1, .int .i64 (ep + 1), .int .i64 16, .int .i64 18, .int .i64 64, .int .i64 a2, .int .i64 q2] 33 :: R) w := H'
                      clear H'
                      refine s_region ?_
                      refine s_do rfl rfl rfl (d_assign rfl rfl) ?_
                      refine s_end ?_
                      refine s_region ?_
                      refine s_do rfl rfl rfl (d_assign rfl rfl) ?_
                      refine s_end ?_
                      have H' := H.pick 10 [1, 5, 2, 4, 0, 9, 6] rfl
                      have H : Sep z (blk pl3 [.pointer (some ⟨pd, 0, none⟩), .pointer (some ⟨pt, 0, none⟩), .int .i64 ((sP (ep + 1) a2 q2).gen), .int .i64 ((sP (ep + 1) a2 q2).epoch), .int .i64 ((sP (ep + 1) a2 q2).pages), .int .i64 ((sP (ep + 1) a2 q2).start), .int .i64 ((sP (ep + 1) a2 q2).len), .int .i64 ((sP (ep + 1) a2 q2).head), .int .i64 ((sP (ep + 1) a2 q2).seq), .int .i64 ((sP (ep + 1) a2 q2).head), .int .i64 ((sP (ep + 1) a2 q2).seq), .int .i64 0, .bool false, .bool (decide ((sP (ep + 1) a2 q2).epoch < 4294967296))] 77 :: tblA pt :: diskA pd Dc :: poolA hq6 :: grow 48 2 (.slice none 0 0) 0 [] :: blk b1 [.int .i64 1, .int .i64 (ep + 1), .int .i64 16, .int .i64 18, .int .i64 64, .int .i64 a2, .int .i64 q2] 33 :: A :: R) w := H'
                      clear H'
                      refine s_region ?_
                      refine s_do rfl rfl rfl (d_move rfl rfl) ?_
                      refine s_do rfl rfl rfl (d_add64 rfl rfl rfl (r := (i : Int) + 1) (by omega) (by omega)) ?_
                      refine s_do rfl rfl rfl (d_assign rfl rfl) ?_
                      refine s_end ?_
                      intro _ hF
                      refine ⟨⟨i + 1, [], (.slice none 0 0), Dc, (sP (ep + 1) a2 q2).head, (sP (ep + 1) a2 q2).seq, 0, false, hq6, ep + 1, a2, q2, a2, q2, 0, [], pl3⟩, (hF.cons (hF.cons (hF.cons (hF.cons (hF.cons (hF.cons (hF.cons (hF.cons hF.nil 9 _ _ rfl rfl) 6 _ _ rfl rfl) 5 _ _ rfl rfl) 1 _ _ rfl rfl) 10 _ _ rfl rfl) 12 _ _ rfl (by go_num)) 11 _ _ rfl (by go_num)) 13 _ _ rfl (by go_num)), ⟨H, ?_⟩, ?_⟩
                      · dsimp only
                        have hsP3 := sP_f (ep + 1) a2 q2
                        exact ⟨by omega, hP.crash hsok (by omega) hcr.has rfl rfl rfl hpa2, sP_s (by omega) hpa2 (by omega), by (try dsimp only); omega, by (try dsimp only); omega, ⟨hpa2.1, hpa2.2, by (try dsimp only); omega⟩, ⟨hpa2.1, hpa2.2, by (try dsimp only); omega⟩, hcr.n.trans hDn, fun j => by rw [hcr.ver]; simp, fun e he => absurd he (by simp), by simp⟩
                      · (dsimp only; omega)
                · -- no: (om.k0 : Int) = 5
                  refine k_skip ?_
                  refine s_region ?_
                  refine s_do rfl rfl rfl (d_move rfl rfl) ?_
                  refine s_do rfl rfl rfl (d_add64 rfl rfl rfl (r := (i : Int) + 1) (by omega) (by omega)) ?_
                  refine s_do rfl rfl rfl (d_assign rfl rfl) ?_
                  refine s_end ?_
                  have H' := H.pick 8 [1, 2, 3, 4, 5, 6, 7] rfl
                  have H : Sep z (blk plg [.pointer (some ⟨pd, 0, none⟩), .pointer (some ⟨pt, 0, none⟩), .int .i64 ((sP ep h0 q0).gen), .int .i64 ((sP ep h0 q0).epoch), .int .i64 ((sP ep h0 q0).pages), .int .i64 ((sP ep h0 q0).start), .int .i64 ((sP ep h0 q0).len), .int .i64 ((sP ep h0 q0).head), .int .i64 ((sP ep h0 q0).seq), .int .i64 a, .int .i64 q, .int .i64 u, .bool b, .bool (decide ((sP ep h0 q0).epoch < 4294967296))] 77 :: tblA pt :: diskA pd D :: poolA hq :: grow 48 2 v rl.length (rcC rl) :: blk b1 [.int .i64 1, .int .i64 ep, .int .i64 16, .int .i64 18, .int .i64 64, .int .i64 hz, .int .i64 sq] 33 :: A :: R) w := H'
                  clear H'
                  intro _ hF
                  refine ⟨⟨i + 1, rl, v, D, a, q, u, b, hq, ep, hz, sq, h0, q0, su, ptl, plg⟩, (hF.cons (hF.cons (hF.cons (hF.cons (hF.cons (hF.cons (hF.cons (hF.cons hF.nil 9 _ _ rfl rfl) 6 _ _ rfl rfl) 5 _ _ rfl rfl) 1 _ _ rfl rfl) 10 _ _ rfl rfl) 12 _ _ rfl rfl) 11 _ _ rfl rfl) 13 _ _ rfl (by go_num)), ⟨H, ?_⟩, ?_⟩
                  · exact ⟨by omega, hP, hsok, by (try dsimp only); omega, by (try dsimp only); omega, by (try dsimp only); omega, by (try dsimp only); omega, hDn, fun j => by have h2 := hver j; dsimp only; omega, hrk, by (try dsimp only); omega⟩
                  · (dsimp only; omega)
    · -- no: (i : Int) < (es.length : Int)
      refine k_exit ?_
      refine k_here ?_
      refine k_seq ?_
      refine s_region ?_
      refine s_do rfl rfl rfl (d_assign rfl rfl) ?_
      refine s_end ?_
      refine k_ret ?_
      refine doneL rfl [.bool true] ⟨rfl, trivial⟩ (v := .bool true) rfl ?_
      exact ⟨[A], ⟨rfl, rfl⟩, H.perm 7 [6] rfl rfl⟩
end Go.Proofs.YtanejicgmgpjcaaGreatDoor
