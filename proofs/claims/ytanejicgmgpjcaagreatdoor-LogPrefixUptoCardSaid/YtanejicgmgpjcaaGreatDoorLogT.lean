/-
  Walks: opening a log. No condition.
-/
import Derived.Test.YtanejicgmgpjcaaGreatDoorLogS
set_option maxRecDepth 100000
namespace Go.Proofs.YtanejicgmgpjcaaGreatDoor
open Go.RowKit
theorem lnewD_c (pd pt : Nat) (D : Dsk) (s : Sup) (hok : s.Ok (D.n : Int)) : Cn Tryz.prog 8 [.pointer (some ⟨pd, 0, none⟩), .pointer (some ⟨pt, 0, none⟩), .agg #[.int .i64 s.gen, .int .i64 s.epoch, .int .i64 s.pages, .int .i64 s.start, .int .i64 s.len, .int .i64 s.head, .int .i64 s.seq]] [diskA pd D] (fun v Γ => ∃ pl, v = .pointer (some ⟨pl, 0, none⟩) ∧ Γ = [blk pl [.pointer (some ⟨pd, 0, none⟩), .pointer (some ⟨pt, 0, none⟩), .int .i64 s.gen, .int .i64 s.epoch, .int .i64 s.pages, .int .i64 s.start, .int .i64 s.len, .int .i64 s.head, .int .i64 s.seq, .int .i64 s.head, .int .i64 s.seq, .int .i64 0, .bool false, .bool (decide (s.epoch < 4294967296))] 77, diskA pd D]) := by
  refine Cn.mono (Cn.onDisk (post := fun v Γ => ∃ pl, v = .pointer (some ⟨pl, 0, none⟩) ∧ Γ = [blk pl [.pointer (some ⟨pd, 0, none⟩), .pointer (some ⟨pt, 0, none⟩), .int .i64 s.gen, .int .i64 s.epoch, .int .i64 s.pages, .int .i64 s.start, .int .i64 s.len, .int .i64 s.head, .int .i64 s.seq, .int .i64 s.head, .int .i64 s.seq, .int .i64 0, .bool false, .bool (decide (s.epoch < 4294967296))] 77]) (fun hD bd m f0 => ?_)) ?_
  · have hn2 := hD.n2
    refine Cn.mono (lnew_ok pd bd m (D.n * 256) f0 D.f1 D.f2 D.f3 D.left D.cut pt s (by omega) (by rw [show ((D.n * 256 : Nat) : Int) / 256 = (D.n : Int) from by omega]; exact hok)) ?_
    rintro v Γ ⟨pl, rfl, rfl⟩
    exact ⟨_, ⟨pl, rfl, rfl⟩, rfl⟩
  · rintro v Γ ⟨Γ', ⟨pl, rfl, rfl⟩, rfl⟩
    exact ⟨pl, rfl, rfl⟩

set_option maxHeartbeats 1000000 in
theorem open_c (pd pt : Nat) (s : Sup) (D : Dsk) (hok : s.Ok (D.n : Int)) (hf1 : D.f1 = 0) : Cn Tryz.prog 19 [.pointer (some ⟨pd, 0, none⟩), .pointer (some ⟨pt, 0, none⟩), .agg #[.int .i64 s.gen, .int .i64 s.epoch, .int .i64 s.pages, .int .i64 s.start, .int .i64 s.len, .int .i64 s.head, .int .i64 s.seq]] [tblA pt, diskA pd D] (fun v Γ => ∃ pl rs a q u v' hq, v = .tuple #[.pointer (some ⟨pl, 0, none⟩), v', .int .i64 0] ∧ Runs D s s.head s.seq 0 rs a q u ∧ (s.len ≤ u ∨ ∀ ims, ¬ nextP (stepF D s a) s.epoch q (s.len - u) ims) ∧ recsH v' rs hq ∧ Γ = [poolA hq, blk pl [.pointer (some ⟨pd, 0, none⟩), .pointer (some ⟨pt, 0, none⟩), .int .i64 s.gen, .int .i64 s.epoch, .int .i64 s.pages, .int .i64 s.start, .int .i64 s.len, .int .i64 s.head, .int .i64 s.seq, .int .i64 a, .int .i64 q, .int .i64 u, .bool false, .bool (decide (s.epoch < 4294967296))] 77, tblA pt, diskA pd D]) := by
  intro z R w H'
  have H : Sep z (tblA pt :: diskA pd D :: R) w := H'
  clear H'
  have hn2 := H.says 1 rfl (fun h q => (diskA.ok q).n2)
  have hsg := Sup.get hok
  have hr : 0 ≤ s.start ∧ 0 < s.len ∧ s.start + s.len ≤ D.n := by have := hok.2; omega
  have hhd := hok.2.2.2.2.2.2.2
  refine enter Tryz.func19 rfl 50 Tryz.ntmps19 rfl ?_
  refine k_seq ?_
  refine s_region ?_
  refine s_go rfl rfl rfl (n_box H rfl rfl (cs := [.int .i64 s.gen, .int .i64 s.epoch, .int .i64 s.pages, .int .i64 s.start, .int .i64 s.len, .int .i64 s.head, .int .i64 s.seq]) rfl) ?_
  rintro _ w ⟨b1, rfl, H'⟩
  have H : Sep z (blk b1 [.int .i64 s.gen, .int .i64 s.epoch, .int .i64 s.pages, .int .i64 s.start, .int .i64 s.len, .int .i64 s.head, .int .i64 s.seq] 33 :: tblA pt :: diskA pd D :: R) w := H'
  clear H'
  refine s_do rfl rfl rfl (d_assign rfl rfl) ?_
  refine s_do rfl rfl rfl (d_assign rfl rfl) ?_
  refine s_do rfl rfl rfl (d_assign rfl rfl) ?_
  refine s_end ?_
  refine k_seq ?_
  refine s_region ?_
  refine s_do rfl rfl rfl (d_move rfl rfl) ?_
  refine s_do rfl rfl rfl (d_move rfl rfl) ?_
  refine s_do rfl rfl rfl (d_loadAgg rfl rfl (vs := [.int .i64 s.gen, .int .i64 s.epoch, .int .i64 s.pages, .int .i64 s.start, .int .i64 s.len, .int .i64 s.head, .int .i64 s.seq]) (by kernel_rfl) (here ((H.blk 0 rfl).part 0 7 _ rfl))) ?_
  refine s_callC rfl rfl rfl rfl rfl (fun w => Tryz.call8 _ w) (lnewD_c _ _ _ s hok) H 3 [2, 0, 1] rfl rfl ?_
  rintro _ w _ ⟨pl, rfl, rfl⟩ H'
  have H : Sep z (blk pl [.pointer (some ⟨pd, 0, none⟩), .pointer (some ⟨pt, 0, none⟩), .int .i64 s.gen, .int .i64 s.epoch, .int .i64 s.pages, .int .i64 s.start, .int .i64 s.len, .int .i64 s.head, .int .i64 s.seq, .int .i64 s.head, .int .i64 s.seq, .int .i64 0, .bool false, .bool (decide (s.epoch < 4294967296))] 77 :: diskA pd D :: blk b1 [.int .i64 s.gen, .int .i64 s.epoch, .int .i64 s.pages, .int .i64 s.start, .int .i64 s.len, .int .i64 s.head, .int .i64 s.seq] 33 :: tblA pt :: R) w := H'
  clear H'
  refine s_do rfl rfl rfl (d_assign rfl rfl) ?_
  refine s_end ?_
  refine k_seq ?_
  refine k_seq ?_
  refine s_region ?_
  refine s_do rfl rfl rfl (d_move rfl rfl) ?_
  refine s_do rfl rfl rfl (d_eql_pn rfl (by kernel_rfl) rfl rfl) ?_
  refine s_end ?_
  refine k_false rfl ?_
  refine k_skip ?_
  refine k_seq ?_
  refine s_region ?_
  refine s_do rfl rfl rfl (d_assign rfl rfl) ?_
  refine s_end ?_
  have H' := H.nilg 48 2
  have H : Sep z (grow 48 2 (.slice none 0 0) 0 [] :: blk pl [.pointer (some ⟨pd, 0, none⟩), .pointer (some ⟨pt, 0, none⟩), .int .i64 s.gen, .int .i64 s.epoch, .int .i64 s.pages, .int .i64 s.start, .int .i64 s.len, .int .i64 s.head, .int .i64 s.seq, .int .i64 s.head, .int .i64 s.seq, .int .i64 0, .bool false, .bool (decide (s.epoch < 4294967296))] 77 :: diskA pd D :: blk b1 [.int .i64 s.gen, .int .i64 s.epoch, .int .i64 s.pages, .int .i64 s.start, .int .i64 s.len, .int .i64 s.head, .int .i64 s.seq] 33 :: tblA pt :: R) w := H'
  clear H'
  have H' := pool0 H
  have H : Sep z (poolA (fun _ => none) :: grow 48 2 (.slice none 0 0) 0 [] :: blk pl [.pointer (some ⟨pd, 0, none⟩), .pointer (some ⟨pt, 0, none⟩), .int .i64 s.gen, .int .i64 s.epoch, .int .i64 s.pages, .int .i64 s.start, .int .i64 s.len, .int .i64 s.head, .int .i64 s.seq, .int .i64 s.head, .int .i64 s.seq, .int .i64 0, .bool false, .bool (decide (s.epoch < 4294967296))] 77 :: diskA pd D :: blk b1 [.int .i64 s.gen, .int .i64 s.epoch, .int .i64 s.pages, .int .i64 s.start, .int .i64 s.len, .int .i64 s.head, .int .i64 s.seq] 33 :: tblA pt :: R) w := H'
  clear H'
  refine k_seq ?_
  refine k_block ?_
  refine c_loop (σ := List RcE × Value × Int × Int × Int × Hp) (fun ⟨es, v, a, q, u, hq⟩ => [(10, v), (5, .pointer (some ⟨b1, 0, none⟩)), (9, .pointer (some ⟨pl, 0, none⟩))])
    (fun ⟨es, v, a, q, u, hq⟩ w => Sep z (poolA hq :: grow 48 2 v es.length (rcC es) :: blk pl [.pointer (some ⟨pd, 0, none⟩), .pointer (some ⟨pt, 0, none⟩), .int .i64 s.gen, .int .i64 s.epoch, .int .i64 s.pages, .int .i64 s.start, .int .i64 s.len, .int .i64 s.head, .int .i64 s.seq, .int .i64 a, .int .i64 q, .int .i64 u, .bool false, .bool (decide (s.epoch < 4294967296))] 77 :: diskA pd D :: blk b1 [.int .i64 s.gen, .int .i64 s.epoch, .int .i64 s.pages, .int .i64 s.start, .int .i64 s.len, .int .i64 s.head, .int .i64 s.seq] 33 :: tblA pt :: R) w ∧ (Runs D s s.head s.seq 0 (es.map Prod.fst) a q u ∧ rcesOk es hq ∧ (0 ≤ a ∧ a ≤ 4096) ∧ (s.seq ≤ q ∧ q ≤ s.seq + u) ∧ (0 ≤ u ∧ u ≤ s.len) ∧ es.length ≤ u)) (fun ⟨es, v, a, q, u, hq⟩ => (s.len - u).toNat) ⟨[], .slice none 0 0, s.head, s.seq, 0, (fun _ => none)⟩
    (fun _ hF => (hF.cons (hF.cons (hF.cons hF.nil 9 _ _ rfl rfl) 5 _ _ rfl rfl) 10 _ _ rfl (by go_num))) ⟨H, .nil _ _ _, fun e he => absurd he (by simp), by omega, by omega, by omega, by simp⟩ ?_
  clear H; rintro ⟨es, v, a, q, u, hq⟩ w ⟨H', hI⟩
  dsimp only at hI H' ⊢
  have H : Sep z (poolA hq :: grow 48 2 v es.length (rcC es) :: blk pl [.pointer (some ⟨pd, 0, none⟩), .pointer (some ⟨pt, 0, none⟩), .int .i64 s.gen, .int .i64 s.epoch, .int .i64 s.pages, .int .i64 s.start, .int .i64 s.len, .int .i64 s.head, .int .i64 s.seq, .int .i64 a, .int .i64 q, .int .i64 u, .bool false, .bool (decide (s.epoch < 4294967296))] 77 :: diskA pd D :: blk b1 [.int .i64 s.gen, .int .i64 s.epoch, .int .i64 s.pages, .int .i64 s.start, .int .i64 s.len, .int .i64 s.head, .int .i64 s.seq] 33 :: tblA pt :: R) w := H'
  clear H'
  have sv := H.says 1 rfl (fun h q => q.slc)
  obtain ⟨hrun, hok2, ha, hq1, hu, hel⟩ := hI
  refine k_seq ?_
  refine k_seq ?_
  refine q_region (Sep z (poolA hq :: grow 48 2 v es.length (rcC es) :: blk pl [.pointer (some ⟨pd, 0, none⟩), .pointer (some ⟨pt, 0, none⟩), .int .i64 s.gen, .int .i64 s.epoch, .int .i64 s.pages, .int .i64 s.start, .int .i64 s.len, .int .i64 s.head, .int .i64 s.seq, .int .i64 a, .int .i64 q, .int .i64 u, .bool false, .bool (decide (s.epoch < 4294967296))] 77 :: diskA pd D :: blk b1 [.int .i64 s.gen, .int .i64 s.epoch, .int .i64 s.pages, .int .i64 s.start, .int .i64 s.len, .int .i64 s.head, .int .i64 s.seq] 33 :: tblA pt :: R)) (by kernel_rfl) (by kernel_rfl) H.drew ?_
  refine q_do rfl rfl rfl (d_move rfl rfl) ?_
  refine q_do rfl rfl rfl (d_nilCheck rfl rfl) ?_
  refine q_do rfl rfl rfl (d_field rfl (k := 11) (r := 11) (by kernel_rfl) rfl rfl) ?_
  refine q_do rfl rfl rfl (d_load rfl rfl (by kernel_rfl) (fun _ hx => hx.cel 2 rfl 11 rfl)) ?_
  refine q_do rfl rfl rfl (d_field rfl (k := 4) (r := 4) (by kernel_rfl) rfl rfl) ?_
  refine q_do rfl rfl rfl (d_load rfl rfl (by kernel_rfl) (fun _ hx => hx.cel 4 rfl 4 rfl)) ?_
  refine q_do rfl rfl rfl (d_lss rfl rfl rfl) ?_
  refine q_end (fun w H' => ?_)
  have H : Sep z (poolA hq :: grow 48 2 v es.length (rcC es) :: blk pl [.pointer (some ⟨pd, 0, none⟩), .pointer (some ⟨pt, 0, none⟩), .int .i64 s.gen, .int .i64 s.epoch, .int .i64 s.pages, .int .i64 s.start, .int .i64 s.len, .int .i64 s.head, .int .i64 s.seq, .int .i64 a, .int .i64 q, .int .i64 u, .bool false, .bool (decide (s.epoch < 4294967296))] 77 :: diskA pd D :: blk b1 [.int .i64 s.gen, .int .i64 s.epoch, .int .i64 s.pages, .int .i64 s.start, .int .i64 s.len, .int .i64 s.head, .int .i64 s.seq] 33 :: tblA pt :: R) w := H'
  clear H'
  refine k_dec rfl (fun h1 => ?_) (fun h1 => ?_)
  · -- yes: (u : Int) < s.len
    refine k_skip ?_
    refine k_block ?_
    refine k_seq ?_
    refine s_region ?_
    refine s_do rfl rfl rfl (d_move rfl rfl) ?_
    refine s_callC rfl rfl rfl rfl rfl (fun w => Tryz.call31 _ w) (next_c _ _ _ _ _ _ _ _ _ _ hf1 hr (by omega) (by omega) (by omega) (stepF D s a) (fun j => rfl)) H 6 [2, 5, 3, 0, 1, 4] rfl rfl ?_
    rintro _ w _ (⟨hno, rfl, rfl⟩ | ⟨ims, v1, hq1, hyes, rfl, him, rfl⟩) H'
    · -- a case
      have H : Sep z (blk pl [.pointer (some ⟨pd, 0, none⟩), .pointer (some ⟨pt, 0, none⟩), .int .i64 s.gen, .int .i64 s.epoch, .int .i64 s.pages, .int .i64 s.start, .int .i64 s.len, .int .i64 s.head, .int .i64 s.seq, .int .i64 a, .int .i64 q, .int .i64 u, .bool false, .bool (decide (s.epoch < 4294967296))] 77 :: tblA pt :: diskA pd D :: poolA hq :: grow 48 2 v es.length (rcC es) :: blk b1 [.int .i64 s.gen, .int .i64 s.epoch, .int .i64 s.pages, .int .i64 s.start, .int .i64 s.len, .int .i64 s.head, .int .i64 s.seq] 33 :: R) w := H'
      clear H'
      have hcase := True.intro
      refine s_do rfl rfl rfl (d_move rfl rfl) ?_
      refine s_do rfl rfl rfl (d_extract rfl rfl rfl) ?_
      refine s_do rfl rfl rfl (d_extract rfl rfl rfl) ?_
      refine s_go rfl rfl rfl (n_alloc (P := Tryz.prog) H rfl (zs := [.int .i64 0, .slice none 0 0]) (by kernel_rfl)) ?_
      rintro _ w ⟨b2, rfl, H'⟩
      have H : Sep z (blk b2 [.int .i64 0, .slice none 0 0] 48 :: blk pl [.pointer (some ⟨pd, 0, none⟩), .pointer (some ⟨pt, 0, none⟩), .int .i64 s.gen, .int .i64 s.epoch, .int .i64 s.pages, .int .i64 s.start, .int .i64 s.len, .int .i64 s.head, .int .i64 s.seq, .int .i64 a, .int .i64 q, .int .i64 u, .bool false, .bool (decide (s.epoch < 4294967296))] 77 :: tblA pt :: diskA pd D :: poolA hq :: grow 48 2 v es.length (rcC es) :: blk b1 [.int .i64 s.gen, .int .i64 s.epoch, .int .i64 s.pages, .int .i64 s.start, .int .i64 s.len, .int .i64 s.head, .int .i64 s.seq] 33 :: R) w := H'
      clear H'
      refine s_put rfl rfl (n_store 0 H rfl rfl rfl rfl (vs := [.int .i64 0, .slice none 0 0]) rfl (by simp [u8, u32, Value.oneCell']) (by kernel_rfl) (by simp) (out := [.int .i64 0, .slice none 0 0]) rfl) ?_
      rintro w H'
      have H : Sep z (blk b2 [.int .i64 0, .slice none 0 0] 48 :: blk pl [.pointer (some ⟨pd, 0, none⟩), .pointer (some ⟨pt, 0, none⟩), .int .i64 s.gen, .int .i64 s.epoch, .int .i64 s.pages, .int .i64 s.start, .int .i64 s.len, .int .i64 s.head, .int .i64 s.seq, .int .i64 a, .int .i64 q, .int .i64 u, .bool false, .bool (decide (s.epoch < 4294967296))] 77 :: tblA pt :: diskA pd D :: poolA hq :: grow 48 2 v es.length (rcC es) :: blk b1 [.int .i64 s.gen, .int .i64 s.epoch, .int .i64 s.pages, .int .i64 s.start, .int .i64 s.len, .int .i64 s.head, .int .i64 s.seq] 33 :: R) w := H'
      clear H'
      refine s_do rfl rfl rfl (d_assign rfl rfl) ?_
      refine s_end ?_
      refine k_seq ?_
      refine k_seq ?_
      refine s_region ?_
      refine s_do rfl rfl rfl (d_move rfl rfl) ?_
      refine s_do rfl rfl rfl (d_neq rfl rfl rfl) ?_
      refine k_updA 32 (u := .bool (decide ((0 : Int) ≠ 0))) (v := .bool false) rfl (congrArg Value.bool (by decide)) ?_
      refine s_end ?_
      refine k_false rfl ?_
      refine k_skip ?_
      refine k_seq ?_
      refine k_seq ?_
      refine s_region ?_
      refine s_do rfl rfl rfl (d_field rfl (k := 1) (r := 1) (by kernel_rfl) rfl rfl) ?_
      refine s_do rfl rfl rfl (d_load rfl rfl (by kernel_rfl) (here (H.cel 0 rfl 1 rfl))) ?_
      refine s_do rfl rfl rfl (d_len rfl (z := 3) (by kernel_rfl) rfl) ?_
      refine s_do rfl rfl rfl (d_eql rfl rfl rfl) ?_
      refine k_updA 37 (u := .bool (decide ((0 : Int) = 0))) (v := .bool true) rfl (congrArg Value.bool (by decide)) ?_
      refine s_end ?_
      refine k_true rfl ?_
      refine k_exit ?_
      refine k_out rfl ?_
      refine k_here ?_
      refine k_seq ?_
      refine s_region ?_
      refine s_do rfl rfl rfl (d_move rfl rfl) ?_
      refine s_do rfl rfl rfl (d_move rfl rfl) ?_
      refine s_do rfl rfl rfl (d_assign rfl rfl) ?_
      refine s_do rfl rfl rfl (d_assign rfl rfl) ?_
      refine s_do rfl rfl rfl (d_assign rfl rfl) ?_
      refine s_end ?_
      refine k_ret ?_
      refine doneL rfl [.pointer (some ⟨pl, 0, none⟩), v, .int .i64 0] ⟨rfl, ⟨rfl, ⟨rfl, trivial⟩⟩⟩ (v := .tuple #[.pointer (some ⟨pl, 0, none⟩), v, .int .i64 0]) rfl ?_
      have H' := H.pick 7 [4, 5, 0, 1, 2, 3, 6] rfl
      have H : Sep z (poolA hq :: grow 48 2 v es.length (rcC es) :: blk b2 [.int .i64 0, .slice none 0 0] 48 :: blk pl [.pointer (some ⟨pd, 0, none⟩), .pointer (some ⟨pt, 0, none⟩), .int .i64 s.gen, .int .i64 s.epoch, .int .i64 s.pages, .int .i64 s.start, .int .i64 s.len, .int .i64 s.head, .int .i64 s.seq, .int .i64 a, .int .i64 q, .int .i64 u, .bool false, .bool (decide (s.epoch < 4294967296))] 77 :: tblA pt :: diskA pd D :: blk b1 [.int .i64 s.gen, .int .i64 s.epoch, .int .i64 s.pages, .int .i64 s.start, .int .i64 s.len, .int .i64 s.head, .int .i64 s.seq] 33 :: R) w := H'
      clear H'
      obtain ⟨hq7, ⟨shq7, hrs7⟩, H'⟩ := pool_rd H (fun h q => q.rd)
      clear H
      have H : Sep z (poolA hq7 :: blk b2 [.int .i64 0, .slice none 0 0] 48 :: blk pl [.pointer (some ⟨pd, 0, none⟩), .pointer (some ⟨pt, 0, none⟩), .int .i64 s.gen, .int .i64 s.epoch, .int .i64 s.pages, .int .i64 s.start, .int .i64 s.len, .int .i64 s.head, .int .i64 s.seq, .int .i64 a, .int .i64 q, .int .i64 u, .bool false, .bool (decide (s.epoch < 4294967296))] 77 :: tblA pt :: diskA pd D :: blk b1 [.int .i64 s.gen, .int .i64 s.epoch, .int .i64 s.pages, .int .i64 s.start, .int .i64 s.len, .int .i64 s.head, .int .i64 s.seq] 33 :: R) w := H'
      clear H'
      exact ⟨[poolA hq7, blk pl [.pointer (some ⟨pd, 0, none⟩), .pointer (some ⟨pt, 0, none⟩), .int .i64 s.gen, .int .i64 s.epoch, .int .i64 s.pages, .int .i64 s.start, .int .i64 s.len, .int .i64 s.head, .int .i64 s.seq, .int .i64 a, .int .i64 q, .int .i64 u, .bool false, .bool (decide (s.epoch < 4294967296))] 77, tblA pt, diskA pd D], ⟨pl, es.map Prod.fst, a, q, u, v, hq7, rfl, hrun, by first | exact .inl (by omega) | exact .inr hno, ⟨es, rfl, by simpa using hrs7, hok2.le shq7⟩, rfl⟩, H.perm 6 [0, 2, 3, 4] rfl rfl⟩
    · -- a case
      have H : Sep z (poolA hq1 :: blk pl [.pointer (some ⟨pd, 0, none⟩), .pointer (some ⟨pt, 0, none⟩), .int .i64 s.gen, .int .i64 s.epoch, .int .i64 s.pages, .int .i64 s.start, .int .i64 s.len, .int .i64 s.head, .int .i64 s.seq, .int .i64 a, .int .i64 q, .int .i64 u, .bool false, .bool (decide (s.epoch < 4294967296))] 77 :: tblA pt :: diskA pd D :: poolA hq :: grow 48 2 v es.length (rcC es) :: blk b1 [.int .i64 s.gen, .int .i64 s.epoch, .int .i64 s.pages, .int .i64 s.start, .int .i64 s.len, .int .i64 s.head, .int .i64 s.seq] 33 :: R) w := H'
      clear H'
      obtain ⟨ao1, cc1, hv1⟩ := him.slc
      have sv1 : Slc v1 ims.length := ⟨ao1, cc1, hv1⟩
      clear hv1
      have hlen := hyes.len
      refine s_do rfl rfl rfl (d_move rfl rfl) ?_
      refine s_do rfl rfl rfl (d_extract rfl rfl rfl) ?_
      refine s_do rfl rfl rfl (d_extract rfl rfl rfl) ?_
      refine s_go rfl rfl rfl (n_alloc (P := Tryz.prog) H rfl (zs := [.int .i64 0, .slice none 0 0]) (by kernel_rfl)) ?_
      rintro _ w ⟨b3, rfl, H'⟩
      have H : Sep z (blk b3 [.int .i64 0, .slice none 0 0] 48 :: poolA hq1 :: blk pl [.pointer (some ⟨pd, 0, none⟩), .pointer (some ⟨pt, 0, none⟩), .int .i64 s.gen, .int .i64 s.epoch, .int .i64 s.pages, .int .i64 s.start, .int .i64 s.len, .int .i64 s.head, .int .i64 s.seq, .int .i64 a, .int .i64 q, .int .i64 u, .bool false, .bool (decide (s.epoch < 4294967296))] 77 :: tblA pt :: diskA pd D :: poolA hq :: grow 48 2 v es.length (rcC es) :: blk b1 [.int .i64 s.gen, .int .i64 s.epoch, .int .i64 s.pages, .int .i64 s.start, .int .i64 s.len, .int .i64 s.head, .int .i64 s.seq] 33 :: R) w := H'
      clear H'
      refine s_put rfl rfl (n_store 0 H rfl rfl rfl rfl (vs := [.int .i64 q, v1]) rfl (one_cons rfl (one_cons sv1.one one_nil)) (by kernel_rfl) (by simp) (out := [.int .i64 q, v1]) rfl) ?_
      rintro w H'
      have H : Sep z (blk b3 [.int .i64 q, v1] 48 :: poolA hq1 :: blk pl [.pointer (some ⟨pd, 0, none⟩), .pointer (some ⟨pt, 0, none⟩), .int .i64 s.gen, .int .i64 s.epoch, .int .i64 s.pages, .int .i64 s.start, .int .i64 s.len, .int .i64 s.head, .int .i64 s.seq, .int .i64 a, .int .i64 q, .int .i64 u, .bool false, .bool (decide (s.epoch < 4294967296))] 77 :: tblA pt :: diskA pd D :: poolA hq :: grow 48 2 v es.length (rcC es) :: blk b1 [.int .i64 s.gen, .int .i64 s.epoch, .int .i64 s.pages, .int .i64 s.start, .int .i64 s.len, .int .i64 s.head, .int .i64 s.seq] 33 :: R) w := H'
      clear H'
      refine s_do rfl rfl rfl (d_assign rfl rfl) ?_
      refine s_end ?_
      refine k_seq ?_
      refine k_seq ?_
      have H' := H.pick 8 [5, 1, 0, 2, 3, 4, 6, 7] rfl
      have H : Sep z (poolA hq :: poolA hq1 :: blk b3 [.int .i64 q, v1] 48 :: blk pl [.pointer (some ⟨pd, 0, none⟩), .pointer (some ⟨pt, 0, none⟩), .int .i64 s.gen, .int .i64 s.epoch, .int .i64 s.pages, .int .i64 s.start, .int .i64 s.len, .int .i64 s.head, .int .i64 s.seq, .int .i64 a, .int .i64 q, .int .i64 u, .bool false, .bool (decide (s.epoch < 4294967296))] 77 :: tblA pt :: diskA pd D :: grow 48 2 v es.length (rcC es) :: blk b1 [.int .i64 s.gen, .int .i64 s.epoch, .int .i64 s.pages, .int .i64 s.start, .int .i64 s.len, .int .i64 s.head, .int .i64 s.seq] 33 :: R) w := H'
      clear H'
      obtain ⟨hq2, ⟨shq2, him2⟩, H'⟩ := pool_any H (M := imgsH v1 ims) (fun h q => him.le q) (fun _ _ a b => a.le b)
      clear H
      have H : Sep z (poolA hq2 :: blk b3 [.int .i64 q, v1] 48 :: blk pl [.pointer (some ⟨pd, 0, none⟩), .pointer (some ⟨pt, 0, none⟩), .int .i64 s.gen, .int .i64 s.epoch, .int .i64 s.pages, .int .i64 s.start, .int .i64 s.len, .int .i64 s.head, .int .i64 s.seq, .int .i64 a, .int .i64 q, .int .i64 u, .bool false, .bool (decide (s.epoch < 4294967296))] 77 :: tblA pt :: diskA pd D :: grow 48 2 v es.length (rcC es) :: blk b1 [.int .i64 s.gen, .int .i64 s.epoch, .int .i64 s.pages, .int .i64 s.start, .int .i64 s.len, .int .i64 s.head, .int .i64 s.seq] 33 :: R) w := H'
      clear H'
      refine s_region ?_
      refine s_do rfl rfl rfl (d_move rfl rfl) ?_
      refine s_do rfl rfl rfl (d_neq rfl rfl rfl) ?_
      refine k_updA 32 (u := .bool (decide ((0 : Int) ≠ 0))) (v := .bool false) rfl (congrArg Value.bool (by decide)) ?_
      refine s_end ?_
      refine k_false rfl ?_
      refine k_skip ?_
      refine k_seq ?_
      refine k_seq ?_
      refine s_region ?_
      refine s_do rfl rfl rfl (d_field rfl (k := 1) (r := 1) (by kernel_rfl) rfl rfl) ?_
      refine s_do rfl rfl rfl (d_load rfl rfl (by kernel_rfl) (here (H.cel 1 rfl 1 rfl))) ?_
      refine s_do rfl rfl rfl (d_lenV rfl (sz := 3) (by kernel_rfl) rfl sv1) ?_
      refine s_do rfl rfl rfl (d_eql rfl rfl rfl) ?_
      refine s_end ?_
      refine k_dec rfl (fun h2 => ?_) (fun h2 => ?_)
      · (exfalso; omega)
      · -- no: (ims.length : Int) = 0
        refine k_skip ?_
        refine k_seq ?_
        refine s_region ?_
        refine s_do rfl rfl rfl (d_move rfl rfl) ?_
        refine s_do rfl rfl rfl (d_loadAgg rfl rfl (vs := [.int .i64 q, v1]) (by kernel_rfl) (here ((H.blk 1 rfl).part 0 2 _ rfl))) ?_
        refine s_go rfl rfl rfl (n_buildSlice H rfl (by kernel_rfl) (Elt.mk (P := Tryz.prog) (e := 48) (z := .agg #[.int .i64 0, .slice none 0 0]) (sz := 2) (by_ := 32) (by kernel_rfl) rfl (by omega) (by omega)) rfl (by decide) (by decide) (out := [.int .i64 q, v1]) (by kernel_rfl)) ?_
        rintro _ w ⟨b4, rfl, H'⟩
        have H : Sep z (blk b4 [.int .i64 q, v1] 48 :: poolA hq2 :: blk b3 [.int .i64 q, v1] 48 :: blk pl [.pointer (some ⟨pd, 0, none⟩), .pointer (some ⟨pt, 0, none⟩), .int .i64 s.gen, .int .i64 s.epoch, .int .i64 s.pages, .int .i64 s.start, .int .i64 s.len, .int .i64 s.head, .int .i64 s.seq, .int .i64 a, .int .i64 q, .int .i64 u, .bool false, .bool (decide (s.epoch < 4294967296))] 77 :: tblA pt :: diskA pd D :: grow 48 2 v es.length (rcC es) :: blk b1 [.int .i64 s.gen, .int .i64 s.epoch, .int .i64 s.pages, .int .i64 s.start, .int .i64 s.len, .int .i64 s.head, .int .i64 s.seq] 33 :: R) w := H'
        clear H'
        refine s_go rfl rfl rfl (n_append 6 H rfl rfl (by kernel_rfl) (Elt.mk (P := Tryz.prog) (e := 48) (z := .agg #[.int .i64 0, .slice none 0 0]) (sz := 2) (by_ := 32) (by kernel_rfl) rfl (by omega) (by omega)) rfl rfl (H.rd 0 rfl (fun h q => q.rd (by omega) (by omega) (by simp) rfl)) (one_cons rfl (one_cons sv1.one one_nil)) (by omega)) ?_
        rintro v5 w H'
        have H' : Sep z (blk b4 [.int .i64 q, v1] 48 :: poolA hq2 :: blk b3 [.int .i64 q, v1] 48 :: blk pl [.pointer (some ⟨pd, 0, none⟩), .pointer (some ⟨pt, 0, none⟩), .int .i64 s.gen, .int .i64 s.epoch, .int .i64 s.pages, .int .i64 s.start, .int .i64 s.len, .int .i64 s.head, .int .i64 s.seq, .int .i64 a, .int .i64 q, .int .i64 u, .bool false, .bool (decide (s.epoch < 4294967296))] 77 :: tblA pt :: diskA pd D :: grow 48 2 v5 (es.length + 1) (rcC es ++ [.int .i64 q, v1]) :: blk b1 [.int .i64 s.gen, .int .i64 s.epoch, .int .i64 s.pages, .int .i64 s.start, .int .i64 s.len, .int .i64 s.head, .int .i64 s.seq] 33 :: R) w := H'
        have ev5 : (rcC es ++ [.int .i64 q, v1] : List Value) = rcC (es ++ [(⟨q, ims⟩, v1)]) := rcC_snoc es (⟨q, ims⟩, v1)
        rw [ev5] at H'
        rw [show (es.length + 1 : Nat) = (es ++ [((⟨q, ims⟩ : Rc), v1)]).length from by simp] at H'
        have H : Sep z (blk b4 [.int .i64 q, v1] 48 :: poolA hq2 :: blk b3 [.int .i64 q, v1] 48 :: blk pl [.pointer (some ⟨pd, 0, none⟩), .pointer (some ⟨pt, 0, none⟩), .int .i64 s.gen, .int .i64 s.epoch, .int .i64 s.pages, .int .i64 s.start, .int .i64 s.len, .int .i64 s.head, .int .i64 s.seq, .int .i64 a, .int .i64 q, .int .i64 u, .bool false, .bool (decide (s.epoch < 4294967296))] 77 :: tblA pt :: diskA pd D :: grow 48 2 v5 ((es ++ [((⟨q, ims⟩ : Rc), v1)]).length) (rcC (es ++ [(⟨q, ims⟩, v1)])) :: blk b1 [.int .i64 s.gen, .int .i64 s.epoch, .int .i64 s.pages, .int .i64 s.start, .int .i64 s.len, .int .i64 s.head, .int .i64 s.seq] 33 :: R) w := H'
        clear H'
        have sv5 := H.says 6 rfl (fun h q => q.slc)
        refine s_do rfl rfl rfl (d_assign rfl rfl) ?_
        refine s_end ?_
        refine s_region ?_
        refine s_do rfl rfl rfl (d_move rfl rfl) ?_
        refine s_do rfl rfl rfl (d_field rfl (k := 1) (r := 1) (by kernel_rfl) rfl rfl) ?_
        refine s_do rfl rfl rfl (d_load rfl rfl (by kernel_rfl) (here (H.cel 2 rfl 1 rfl))) ?_
        refine s_do rfl rfl rfl (d_lenV rfl (sz := 3) (by kernel_rfl) rfl sv1) ?_
        refine s_do rfl rfl rfl (d_add64 rfl rfl rfl (r := 1 + (ims.length : Int)) (by omega) (by omega)) ?_
        refine s_callC rfl rfl rfl rfl rfl (fun w => Tryz.call25 _ w) (passed_c _ _ _ _ _ _ _ _ _ _ (by omega) (by omega) (by omega) (by omega) (by omega)) H 4 [3, 0, 1, 2] rfl rfl ?_
        rintro _ w _ ⟨rfl, rfl⟩ H'
        have H : Sep z (blk pl [.pointer (some ⟨pd, 0, none⟩), .pointer (some ⟨pt, 0, none⟩), .int .i64 s.gen, .int .i64 s.epoch, .int .i64 s.pages, .int .i64 s.start, .int .i64 s.len, .int .i64 s.head, .int .i64 s.seq, .int .i64 ((a + (1 + (ims.length : Int))) % s.len), .int .i64 (q + 1), .int .i64 (u + (1 + (ims.length : Int))), .bool false, .bool (decide (s.epoch < 4294967296))] 77 :: blk b4 [.int .i64 q, v1] 48 :: poolA hq2 :: blk b3 [.int .i64 q, v1] 48 :: tblA pt :: diskA pd D :: grow 48 2 v5 ((es ++ [((⟨q, ims⟩ : Rc), v1)]).length) (rcC (es ++ [(⟨q, ims⟩, v1)])) :: blk b1 [.int .i64 s.gen, .int .i64 s.epoch, .int .i64 s.pages, .int .i64 s.start, .int .i64 s.len, .int .i64 s.head, .int .i64 s.seq] 33 :: R) w := H'
        clear H'
        refine s_end ?_
        have H' := H.pick 8 [2, 6, 0, 5, 7, 4] rfl
        have H : Sep z (poolA hq2 :: grow 48 2 v5 ((es ++ [((⟨q, ims⟩ : Rc), v1)]).length) (rcC (es ++ [(⟨q, ims⟩, v1)])) :: blk pl [.pointer (some ⟨pd, 0, none⟩), .pointer (some ⟨pt, 0, none⟩), .int .i64 s.gen, .int .i64 s.epoch, .int .i64 s.pages, .int .i64 s.start, .int .i64 s.len, .int .i64 s.head, .int .i64 s.seq, .int .i64 ((a + (1 + (ims.length : Int))) % s.len), .int .i64 (q + 1), .int .i64 (u + (1 + (ims.length : Int))), .bool false, .bool (decide (s.epoch < 4294967296))] 77 :: diskA pd D :: blk b1 [.int .i64 s.gen, .int .i64 s.epoch, .int .i64 s.pages, .int .i64 s.start, .int .i64 s.len, .int .i64 s.head, .int .i64 s.seq] 33 :: tblA pt :: R) w := H'
        clear H'
        intro _ hF
        refine ⟨⟨es ++ [(⟨q, ims⟩, v1)], v5, (a + (1 + (ims.length : Int))) % s.len, q + 1, u + (1 + (ims.length : Int)), hq2⟩, (hF.cons (hF.cons (hF.cons hF.nil 9 _ _ rfl rfl) 5 _ _ rfl rfl) 10 _ _ rfl rfl), ⟨H, ?_⟩, ?_⟩
        · dsimp only
          have hm1 := Int.emod_nonneg (a + (1 + (ims.length : Int))) (by omega : s.len ≠ 0)
          have hm2 := Int.emod_lt_of_pos (a + (1 + (ims.length : Int))) (by omega : 0 < s.len)
          refine ⟨?_, ?_, by omega, by omega, by omega, by simp; omega⟩
          · rw [List.map_append]; exact .snoc hrun (by omega) hyes
          · intro e he; rcases List.mem_append.1 he with q | q
            · exact (hok2 e q).le shq2
            · rw [List.mem_singleton.1 q]; exact him2
        · (dsimp only; omega)
  · -- no: (u : Int) < s.len
    refine k_exit ?_
    refine k_here ?_
    refine k_seq ?_
    refine s_region ?_
    refine s_do rfl rfl rfl (d_move rfl rfl) ?_
    refine s_do rfl rfl rfl (d_move rfl rfl) ?_
    refine s_do rfl rfl rfl (d_assign rfl rfl) ?_
    refine s_do rfl rfl rfl (d_assign rfl rfl) ?_
    refine s_do rfl rfl rfl (d_assign rfl rfl) ?_
    refine s_end ?_
    refine k_ret ?_
    refine doneL rfl [.pointer (some ⟨pl, 0, none⟩), v, .int .i64 0] ⟨rfl, ⟨rfl, ⟨rfl, trivial⟩⟩⟩ (v := .tuple #[.pointer (some ⟨pl, 0, none⟩), v, .int .i64 0]) rfl ?_
    obtain ⟨hq7, ⟨shq7, hrs7⟩, H'⟩ := pool_rd H (fun h q => q.rd)
    clear H
    have H : Sep z (poolA hq7 :: blk pl [.pointer (some ⟨pd, 0, none⟩), .pointer (some ⟨pt, 0, none⟩), .int .i64 s.gen, .int .i64 s.epoch, .int .i64 s.pages, .int .i64 s.start, .int .i64 s.len, .int .i64 s.head, .int .i64 s.seq, .int .i64 a, .int .i64 q, .int .i64 u, .bool false, .bool (decide (s.epoch < 4294967296))] 77 :: diskA pd D :: blk b1 [.int .i64 s.gen, .int .i64 s.epoch, .int .i64 s.pages, .int .i64 s.start, .int .i64 s.len, .int .i64 s.head, .int .i64 s.seq] 33 :: tblA pt :: R) w := H'
    clear H'
    exact ⟨[poolA hq7, blk pl [.pointer (some ⟨pd, 0, none⟩), .pointer (some ⟨pt, 0, none⟩), .int .i64 s.gen, .int .i64 s.epoch, .int .i64 s.pages, .int .i64 s.start, .int .i64 s.len, .int .i64 s.head, .int .i64 s.seq, .int .i64 a, .int .i64 q, .int .i64 u, .bool false, .bool (decide (s.epoch < 4294967296))] 77, tblA pt, diskA pd D], ⟨pl, es.map Prod.fst, a, q, u, v, hq7, rfl, hrun, by first | exact .inl (by omega) | exact .inr hno, ⟨es, rfl, by simpa using hrs7, hok2.le shq7⟩, rfl⟩, H.perm 5 [0, 1, 4, 2] rfl rfl⟩
end Go.Proofs.YtanejicgmgpjcaaGreatDoor
