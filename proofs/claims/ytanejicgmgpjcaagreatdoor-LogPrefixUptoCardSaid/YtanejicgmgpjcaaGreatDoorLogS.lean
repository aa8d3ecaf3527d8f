/-
  Walks: the next record of a log. No condition.
-/
import Derived.Test.YtanejicgmgpjcaaGreatDoorLogR
set_option maxRecDepth 100000
namespace Go.Proofs.YtanejicgmgpjcaaGreatDoor
open Go.RowKit
theorem moren_c (pt : Nat) (sum : UInt32) (v : Value) (n : Nat) (bs : List UInt8) (hn : bs.length = n) (A : Asn) (hA : ∀ h, A h → rdH 1 v n (bs.map u8) h) : Cn Tryz.prog 45 [.pointer (some ⟨pt, 0, none⟩), u32 sum, v] [tblA pt, A] (fun v Γ => v = u32 (crcMore sum bs) ∧ Γ = [tblA pt, A]) := by
  subst hn; exact more_c pt sum v bs A hA

set_option maxHeartbeats 1000000 in
theorem next_c (pl pd pt : Nat) (s : Sup) (at_ sq us : Int) (br nu : Bool) (D : Dsk) (hf1 : D.f1 = 0) (hr : 0 ≤ s.start ∧ 0 < s.len ∧ s.start + s.len ≤ D.n) (ha : 0 ≤ at_ ∧ at_ ≤ 1099511627776) (hu : 0 ≤ us ∧ us ≤ 1099511627776) (hsl : s.len ≤ 4096) (F : Nat → List UInt8) (hF : ∀ j : Nat, F j = D.cont (ringAt s (at_ + j))) : Cn Tryz.prog 31 [.pointer (some ⟨pl, 0, none⟩)] [blk pl [.pointer (some ⟨pd, 0, none⟩), .pointer (some ⟨pt, 0, none⟩), .int .i64 s.gen, .int .i64 s.epoch, .int .i64 s.pages, .int .i64 s.start, .int .i64 s.len, .int .i64 s.head, .int .i64 s.seq, .int .i64 at_, .int .i64 sq, .int .i64 us, .bool br, .bool nu] 77, tblA pt, diskA pd D] (fun v Γ => ((∀ ims, ¬ nextP F s.epoch sq (s.len - us) ims) ∧ v = .tuple #[.agg #[.int .i64 0, .slice none 0 0], .int .i64 0] ∧ Γ = [blk pl [.pointer (some ⟨pd, 0, none⟩), .pointer (some ⟨pt, 0, none⟩), .int .i64 s.gen, .int .i64 s.epoch, .int .i64 s.pages, .int .i64 s.start, .int .i64 s.len, .int .i64 s.head, .int .i64 s.seq, .int .i64 at_, .int .i64 sq, .int .i64 us, .bool br, .bool nu] 77, tblA pt, diskA pd D]) ∨ (∃ ims v' hq, nextP F s.epoch sq (s.len - us) ims ∧ v = .tuple #[.agg #[.int .i64 sq, v'], .int .i64 0] ∧ imgsH v' ims hq ∧ Γ = [poolA hq, blk pl [.pointer (some ⟨pd, 0, none⟩), .pointer (some ⟨pt, 0, none⟩), .int .i64 s.gen, .int .i64 s.epoch, .int .i64 s.pages, .int .i64 s.start, .int .i64 s.len, .int .i64 s.head, .int .i64 s.seq, .int .i64 at_, .int .i64 sq, .int .i64 us, .bool br, .bool nu] 77, tblA pt, diskA pd D])) := by
  intro z R w H'
  have H : Sep z (blk pl [.pointer (some ⟨pd, 0, none⟩), .pointer (some ⟨pt, 0, none⟩), .int .i64 s.gen, .int .i64 s.epoch, .int .i64 s.pages, .int .i64 s.start, .int .i64 s.len, .int .i64 s.head, .int .i64 s.seq, .int .i64 at_, .int .i64 sq, .int .i64 us, .bool br, .bool nu] 77 :: tblA pt :: diskA pd D :: R) w := H'
  clear H'
  have hF1 : ∀ j : Nat, (F j).length = 256 := fun j => by
    rw [hF]; refine Dsk.cont_len (H.says 2 rfl (fun h q => diskA.ok q)) ?_
    have hm1 := Int.emod_nonneg (at_ + j) (by omega : s.len ≠ 0)
    have hm2 := Int.emod_lt_of_pos (at_ + j) (by omega : 0 < s.len)
    unfold ringAt; omega
  have H' := pool0 H
  have H : Sep z (poolA (fun _ => none) :: blk pl [.pointer (some ⟨pd, 0, none⟩), .pointer (some ⟨pt, 0, none⟩), .int .i64 s.gen, .int .i64 s.epoch, .int .i64 s.pages, .int .i64 s.start, .int .i64 s.len, .int .i64 s.head, .int .i64 s.seq, .int .i64 at_, .int .i64 sq, .int .i64 us, .bool br, .bool nu] 77 :: tblA pt :: diskA pd D :: R) w := H'
  clear H'
  refine enter Tryz.func31 rfl 179 Tryz.ntmps31 rfl ?_
  refine k_seq ?_
  refine s_region ?_
  refine s_go rfl rfl rfl (n_alloc (P := Tryz.prog) H rfl (zs := [.int .i64 0, .slice none 0 0]) (by kernel_rfl)) ?_
  rintro _ w ⟨b1, rfl, H'⟩
  have H : Sep z (blk b1 [.int .i64 0, .slice none 0 0] 48 :: poolA (fun _ => none) :: blk pl [.pointer (some ⟨pd, 0, none⟩), .pointer (some ⟨pt, 0, none⟩), .int .i64 s.gen, .int .i64 s.epoch, .int .i64 s.pages, .int .i64 s.start, .int .i64 s.len, .int .i64 s.head, .int .i64 s.seq, .int .i64 at_, .int .i64 sq, .int .i64 us, .bool br, .bool nu] 77 :: tblA pt :: diskA pd D :: R) w := H'
  clear H'
  refine s_do rfl rfl rfl (d_assign rfl rfl) ?_
  refine s_end ?_
  refine k_seq ?_
  refine s_region ?_
  refine s_do rfl rfl rfl (d_build rfl rfl (out := [.int .i64 0, .slice none 0 0]) (by kernel_rfl)) ?_
  refine s_go rfl rfl rfl (n_alloc (P := Tryz.prog) H rfl (zs := [.int .i64 0, .slice none 0 0]) (by kernel_rfl)) ?_
  rintro _ w ⟨b2, rfl, H'⟩
  have H : Sep z (blk b2 [.int .i64 0, .slice none 0 0] 48 :: blk b1 [.int .i64 0, .slice none 0 0] 48 :: poolA (fun _ => none) :: blk pl [.pointer (some ⟨pd, 0, none⟩), .pointer (some ⟨pt, 0, none⟩), .int .i64 s.gen, .int .i64 s.epoch, .int .i64 s.pages, .int .i64 s.start, .int .i64 s.len, .int .i64 s.head, .int .i64 s.seq, .int .i64 at_, .int .i64 sq, .int .i64 us, .bool br, .bool nu] 77 :: tblA pt :: diskA pd D :: R) w := H'
  clear H'
  refine s_put rfl rfl (n_store 0 H rfl rfl rfl rfl (vs := [.int .i64 0, .slice none 0 0]) rfl (by simp [u8, u32, Value.oneCell']) (by kernel_rfl) (by simp) (out := [.int .i64 0, .slice none 0 0]) rfl) ?_
  rintro w H'
  have H : Sep z (blk b2 [.int .i64 0, .slice none 0 0] 48 :: blk b1 [.int .i64 0, .slice none 0 0] 48 :: poolA (fun _ => none) :: blk pl [.pointer (some ⟨pd, 0, none⟩), .pointer (some ⟨pt, 0, none⟩), .int .i64 s.gen, .int .i64 s.epoch, .int .i64 s.pages, .int .i64 s.start, .int .i64 s.len, .int .i64 s.head, .int .i64 s.seq, .int .i64 at_, .int .i64 sq, .int .i64 us, .bool br, .bool nu] 77 :: tblA pt :: diskA pd D :: R) w := H'
  clear H'
  refine s_end ?_
  refine k_seq ?_
  refine s_region ?_
  refine s_do rfl rfl rfl (d_move rfl rfl) ?_
  refine s_do rfl rfl rfl (d_move rfl rfl) ?_
  refine s_do rfl rfl rfl (d_nilCheck rfl rfl) ?_
  refine s_do rfl rfl rfl (d_field rfl (k := 9) (r := 9) (by kernel_rfl) rfl rfl) ?_
  refine s_do rfl rfl rfl (d_load rfl rfl (by kernel_rfl) (here (H.cel 3 rfl 9 rfl))) ?_
  refine s_callC rfl rfl rfl rfl rfl (fun w => Tryz.call43 _ w) (lread_c _ _ _ _ _ _ _ _ _ _ _ hf1 hr (by omega) (F 0) (by rw [hF]; simp)) H 6 [3, 5, 0, 1, 2, 4] rfl rfl ?_
  rintro _ w _ ⟨g, cap, rest, rfl, ⟨cg, cc, cl⟩, rfl⟩ H'
  have H : Sep z (blk g ((F 0).map u8 ++ rest) 5 :: blk pl [.pointer (some ⟨pd, 0, none⟩), .pointer (some ⟨pt, 0, none⟩), .int .i64 s.gen, .int .i64 s.epoch, .int .i64 s.pages, .int .i64 s.start, .int .i64 s.len, .int .i64 s.head, .int .i64 s.seq, .int .i64 at_, .int .i64 sq, .int .i64 us, .bool br, .bool nu] 77 :: diskA pd D :: blk b2 [.int .i64 0, .slice none 0 0] 48 :: blk b1 [.int .i64 0, .slice none 0 0] 48 :: poolA (fun _ => none) :: tblA pt :: R) w := H'
  clear H'
  have H' := H.pick 7 [5, 0, 1, 2, 3, 4, 6] rfl
  have H : Sep z (poolA (fun _ => none) :: blk g ((F 0).map u8 ++ rest) 5 :: blk pl [.pointer (some ⟨pd, 0, none⟩), .pointer (some ⟨pt, 0, none⟩), .int .i64 s.gen, .int .i64 s.epoch, .int .i64 s.pages, .int .i64 s.start, .int .i64 s.len, .int .i64 s.head, .int .i64 s.seq, .int .i64 at_, .int .i64 sq, .int .i64 us, .bool br, .bool nu] 77 :: diskA pd D :: blk b2 [.int .i64 0, .slice none 0 0] 48 :: blk b1 [.int .i64 0, .slice none 0 0] 48 :: tblA pt :: R) w := H'
  clear H'
  obtain ⟨hq1, ⟨shq1, hshq1⟩, H'⟩ := pool_rd H (fun h q => blk_sec q (hF1 _) ⟨cg, cc, cl⟩)
  clear H
  have H : Sep z (poolA hq1 :: blk pl [.pointer (some ⟨pd, 0, none⟩), .pointer (some ⟨pt, 0, none⟩), .int .i64 s.gen, .int .i64 s.epoch, .int .i64 s.pages, .int .i64 s.start, .int .i64 s.len, .int .i64 s.head, .int .i64 s.seq, .int .i64 at_, .int .i64 sq, .int .i64 us, .bool br, .bool nu] 77 :: diskA pd D :: blk b2 [.int .i64 0, .slice none 0 0] 48 :: blk b1 [.int .i64 0, .slice none 0 0] 48 :: tblA pt :: R) w := H'
  clear H'
  refine s_do rfl rfl rfl (d_move rfl rfl) ?_
  refine s_do rfl rfl rfl (d_extract rfl rfl rfl) ?_
  refine s_do rfl rfl rfl (d_extract rfl rfl rfl) ?_
  refine s_do rfl rfl rfl (d_assign rfl rfl) ?_
  refine s_do rfl rfl rfl (d_assign rfl rfl) ?_
  refine s_end ?_
  refine k_seq ?_
  refine k_seq ?_
  refine s_region ?_
  refine s_do rfl rfl rfl (d_move rfl rfl) ?_
  refine s_do rfl rfl rfl (d_neq rfl rfl rfl) ?_
  refine k_updA 32 (u := .bool (decide ((0 : Int) ≠ 0))) (v := .bool false) rfl (congrArg Value.bool (by decide)) ?_
  refine s_end ?_
  refine k_false rfl ?_
  refine k_skip ?_
  refine k_seq ?_
  refine s_region ?_
  refine s_do rfl rfl rfl (d_move rfl rfl) ?_
  refine s_do rfl rfl rfl (d_nilCheck rfl rfl) ?_
  refine s_do rfl rfl rfl (d_field rfl (k := 1) (r := 1) (by kernel_rfl) rfl rfl) ?_
  refine s_do rfl rfl rfl (d_load rfl rfl (by kernel_rfl) (here (H.cel 1 rfl 1 rfl))) ?_
  refine s_do rfl rfl rfl (d_move rfl rfl) ?_
  refine s_callC rfl rfl rfl rfl rfl (fun w => Tryz.call44 _ w) (getHead_c _ _ _ _ (F 0) _ (fun h q => hshq1.le q)) H 6 [5, 0, 1, 2, 3, 4] rfl rfl ?_
  rintro _ w _ (⟨hh, v1, rfl, rfl⟩ | ⟨hh, rfl, rfl⟩) H'
  · -- a case
    have H : Sep z (grow 3 1 v1 (hCnt (F 0)) (hN (F 0) (hCnt (F 0))) :: tblA pt :: poolA hq1 :: blk pl [.pointer (some ⟨pd, 0, none⟩), .pointer (some ⟨pt, 0, none⟩), .int .i64 s.gen, .int .i64 s.epoch, .int .i64 s.pages, .int .i64 s.start, .int .i64 s.len, .int .i64 s.head, .int .i64 s.seq, .int .i64 at_, .int .i64 sq, .int .i64 us, .bool br, .bool nu] 77 :: diskA pd D :: blk b2 [.int .i64 0, .slice none 0 0] 48 :: blk b1 [.int .i64 0, .slice none 0 0] 48 :: R) w := H'
    clear H'
    have hch := hh
    refine s_do rfl rfl rfl (d_move rfl rfl) ?_
    obtain ⟨ao1, cc1, rfl⟩ := H.says 0 rfl (fun h q => q.slc)
    have H : Sep z (grow 3 1 (.slice ao1 (hCnt (F 0)) cc1) (hCnt (F 0)) (hN (F 0) (hCnt (F 0))) :: tblA pt :: poolA hq1 :: blk pl [.pointer (some ⟨pd, 0, none⟩), .pointer (some ⟨pt, 0, none⟩), .int .i64 s.gen, .int .i64 s.epoch, .int .i64 s.pages, .int .i64 s.start, .int .i64 s.len, .int .i64 s.head, .int .i64 s.seq, .int .i64 at_, .int .i64 sq, .int .i64 us, .bool br, .bool nu] 77 :: diskA pd D :: blk b2 [.int .i64 0, .slice none 0 0] 48 :: blk b1 [.int .i64 0, .slice none 0 0] 48 :: R) w := H
    have H' := H.pick 7 [2, 0, 1, 3, 4, 5, 6] rfl
    have H : Sep z (poolA hq1 :: grow 3 1 (.slice ao1 (hCnt (F 0)) cc1) (hCnt (F 0)) (hN (F 0) (hCnt (F 0))) :: tblA pt :: blk pl [.pointer (some ⟨pd, 0, none⟩), .pointer (some ⟨pt, 0, none⟩), .int .i64 s.gen, .int .i64 s.epoch, .int .i64 s.pages, .int .i64 s.start, .int .i64 s.len, .int .i64 s.head, .int .i64 s.seq, .int .i64 at_, .int .i64 sq, .int .i64 us, .bool br, .bool nu] 77 :: diskA pd D :: blk b2 [.int .i64 0, .slice none 0 0] 48 :: blk b1 [.int .i64 0, .slice none 0 0] 48 :: R) w := H'
    clear H'
    obtain ⟨hq2, ⟨shq2, hns⟩, H'⟩ := pool_rd H (fun h q => q.rd)
    clear H
    have H : Sep z (poolA hq2 :: tblA pt :: blk pl [.pointer (some ⟨pd, 0, none⟩), .pointer (some ⟨pt, 0, none⟩), .int .i64 s.gen, .int .i64 s.epoch, .int .i64 s.pages, .int .i64 s.start, .int .i64 s.len, .int .i64 s.head, .int .i64 s.seq, .int .i64 at_, .int .i64 sq, .int .i64 us, .bool br, .bool nu] 77 :: diskA pd D :: blk b2 [.int .i64 0, .slice none 0 0] 48 :: blk b1 [.int .i64 0, .slice none 0 0] 48 :: R) w := H'
    clear H'
    have hcnt := hh.2.2.2.1
    refine s_do rfl rfl rfl (d_extract rfl rfl rfl) ?_
    refine s_do rfl rfl rfl (d_extract rfl rfl rfl) ?_
    refine s_go rfl rfl rfl (n_alloc (P := Tryz.prog) H rfl (zs := [.int .i64 0, .int .i64 0, .slice none 0 0, u32 0]) (by kernel_rfl)) ?_
    rintro _ w ⟨b3, rfl, H'⟩
    have H : Sep z (blk b3 [.int .i64 0, .int .i64 0, .slice none 0 0, u32 0] 100 :: poolA hq2 :: tblA pt :: blk pl [.pointer (some ⟨pd, 0, none⟩), .pointer (some ⟨pt, 0, none⟩), .int .i64 s.gen, .int .i64 s.epoch, .int .i64 s.pages, .int .i64 s.start, .int .i64 s.len, .int .i64 s.head, .int .i64 s.seq, .int .i64 at_, .int .i64 sq, .int .i64 us, .bool br, .bool nu] 77 :: diskA pd D :: blk b2 [.int .i64 0, .slice none 0 0] 48 :: blk b1 [.int .i64 0, .slice none 0 0] 48 :: R) w := H'
    clear H'
    refine s_put rfl rfl (n_store 0 H rfl rfl rfl rfl (vs := [.int .i64 (headE (F 0)), .int .i64 (headS (F 0)), .slice ao1 (hCnt (F 0)) cc1, u32 (headU (F 0))]) rfl (by simp [u8, u32, Value.oneCell']) (by kernel_rfl) (by simp) (out := [.int .i64 (headE (F 0)), .int .i64 (headS (F 0)), .slice ao1 (hCnt (F 0)) cc1, u32 (headU (F 0))]) rfl) ?_
    rintro w H'
    have H : Sep z (blk b3 [.int .i64 (headE (F 0)), .int .i64 (headS (F 0)), .slice ao1 (hCnt (F 0)) cc1, u32 (headU (F 0))] 100 :: poolA hq2 :: tblA pt :: blk pl [.pointer (some ⟨pd, 0, none⟩), .pointer (some ⟨pt, 0, none⟩), .int .i64 s.gen, .int .i64 s.epoch, .int .i64 s.pages, .int .i64 s.start, .int .i64 s.len, .int .i64 s.head, .int .i64 s.seq, .int .i64 at_, .int .i64 sq, .int .i64 us, .bool br, .bool nu] 77 :: diskA pd D :: blk b2 [.int .i64 0, .slice none 0 0] 48 :: blk b1 [.int .i64 0, .slice none 0 0] 48 :: R) w := H'
    clear H'
    refine s_do rfl rfl rfl (d_assign rfl rfl) ?_
    refine s_end ?_
    refine k_seq ?_
    refine k_seq ?_
    refine q_region (Sep z (blk b3 [.int .i64 (headE (F 0)), .int .i64 (headS (F 0)), .slice ao1 (hCnt (F 0)) cc1, u32 (headU (F 0))] 100 :: poolA hq2 :: tblA pt :: blk pl [.pointer (some ⟨pd, 0, none⟩), .pointer (some ⟨pt, 0, none⟩), .int .i64 s.gen, .int .i64 s.epoch, .int .i64 s.pages, .int .i64 s.start, .int .i64 s.len, .int .i64 s.head, .int .i64 s.seq, .int .i64 at_, .int .i64 sq, .int .i64 us, .bool br, .bool nu] 77 :: diskA pd D :: blk b2 [.int .i64 0, .slice none 0 0] 48 :: blk b1 [.int .i64 0, .slice none 0 0] 48 :: R)) (by kernel_rfl) (by kernel_rfl) H.drew ?_
    refine q_do rfl rfl rfl (d_move rfl rfl) ?_
    refine q_do rfl rfl rfl (d_not rfl rfl) ?_
    refine q_do rfl rfl rfl (d_move rfl rfl) ?_
    refine q_do rfl rfl rfl (d_field rfl (k := 0) (r := 0) (by kernel_rfl) rfl rfl) ?_
    refine q_do rfl rfl rfl (d_load rfl rfl (by kernel_rfl) (fun _ hx => hx.cel 0 rfl 0 rfl)) ?_
    refine q_do rfl rfl rfl (d_move rfl rfl) ?_
    refine q_do rfl rfl rfl (d_nilCheck rfl rfl) ?_
    refine q_do rfl rfl rfl (d_field rfl (k := 2) (r := 2) (by kernel_rfl) rfl rfl) ?_
    refine q_do rfl rfl rfl (d_field rfl (k := 1) (r := 3) (by kernel_rfl) rfl rfl) ?_
    refine q_do rfl rfl rfl (d_load rfl rfl (by kernel_rfl) (fun _ hx => hx.cel 3 rfl 3 rfl)) ?_
    refine q_do rfl rfl rfl (d_neq rfl rfl rfl) ?_
    refine q_do rfl rfl rfl (d_pick_f rfl rfl rfl) ?_
    refine q_do rfl rfl rfl (d_move rfl rfl) ?_
    refine q_part 56 rfl (fun h1 => ?_) (fun h1 => ?_)
    · -- yes: (headE (F 0) : Int) ≠ s.epoch
      refine q_skip rfl rfl rfl ?_
      refine q_skip rfl rfl rfl ?_
      refine q_skip rfl rfl rfl ?_
      refine q_skip rfl rfl rfl ?_
      refine q_skip rfl rfl rfl ?_
      refine q_skip rfl rfl rfl ?_
      refine q_skip rfl rfl rfl ?_
      refine q_do rfl rfl rfl (d_pick_t rfl rfl rfl) ?_
      refine q_do rfl rfl rfl (d_move rfl rfl) ?_
      refine q_skip rfl rfl rfl ?_
      refine q_skip rfl rfl rfl ?_
      refine q_skip rfl rfl rfl ?_
      refine q_skip rfl rfl rfl ?_
      refine q_skip rfl rfl rfl ?_
      refine q_skip rfl rfl rfl ?_
      refine q_skip rfl rfl rfl ?_
      refine q_skip rfl rfl rfl ?_
      refine q_skip rfl rfl rfl ?_
      refine q_skip rfl rfl rfl ?_
      refine q_skip rfl rfl rfl ?_
      refine q_skip rfl rfl rfl ?_
      refine q_skip rfl rfl rfl ?_
      refine q_skip rfl rfl rfl ?_
      refine q_skip rfl rfl rfl ?_
      refine q_do rfl rfl rfl (d_pick_t rfl rfl rfl) ?_
      refine q_end (fun w H' => ?_)
      have H : Sep z (blk b3 [.int .i64 (headE (F 0)), .int .i64 (headS (F 0)), .slice ao1 (hCnt (F 0)) cc1, u32 (headU (F 0))] 100 :: poolA hq2 :: tblA pt :: blk pl [.pointer (some ⟨pd, 0, none⟩), .pointer (some ⟨pt, 0, none⟩), .int .i64 s.gen, .int .i64 s.epoch, .int .i64 s.pages, .int .i64 s.start, .int .i64 s.len, .int .i64 s.head, .int .i64 s.seq, .int .i64 at_, .int .i64 sq, .int .i64 us, .bool br, .bool nu] 77 :: diskA pd D :: blk b2 [.int .i64 0, .slice none 0 0] 48 :: blk b1 [.int .i64 0, .slice none 0 0] 48 :: R) w := H'
      clear H'
      refine k_true rfl ?_
      refine k_seq ?_
      refine s_region ?_
      refine s_do rfl rfl rfl (d_loadAgg rfl rfl (vs := [.int .i64 0, .slice none 0 0]) (by kernel_rfl) (here ((H.blk 5 rfl).part 0 2 _ rfl))) ?_
      refine s_put rfl rfl (n_store 6 H rfl rfl rfl rfl (vs := [.int .i64 0, .slice none 0 0]) rfl (by simp [u8, u32, Value.oneCell']) (by kernel_rfl) (by simp) (out := [.int .i64 0, .slice none 0 0]) rfl) ?_
      rintro w H'
      have H : Sep z (blk b3 [.int .i64 (headE (F 0)), .int .i64 (headS (F 0)), .slice ao1 (hCnt (F 0)) cc1, u32 (headU (F 0))] 100 :: poolA hq2 :: tblA pt :: blk pl [.pointer (some ⟨pd, 0, none⟩), .pointer (some ⟨pt, 0, none⟩), .int .i64 s.gen, .int .i64 s.epoch, .int .i64 s.pages, .int .i64 s.start, .int .i64 s.len, .int .i64 s.head, .int .i64 s.seq, .int .i64 at_, .int .i64 sq, .int .i64 us, .bool br, .bool nu] 77 :: diskA pd D :: blk b2 [.int .i64 0, .slice none 0 0] 48 :: blk b1 [.int .i64 0, .slice none 0 0] 48 :: R) w := H'
      clear H'
      refine s_do rfl rfl rfl (d_assign rfl rfl) ?_
      refine s_end ?_
      refine k_ret ?_
      refine doneL rfl [.agg #[.int .i64 0, .slice none 0 0], .int .i64 0] ⟨⟨_, _, rfl, run_loadBlk (by kernel_rfl) (H.blk 6 rfl) (vs := [.int .i64 0, .slice none 0 0]) rfl⟩, ⟨rfl, trivial⟩⟩ (v := .tuple #[.agg #[.int .i64 0, .slice none 0 0], .int .i64 0]) rfl ?_
      exact ⟨[blk pl [.pointer (some ⟨pd, 0, none⟩), .pointer (some ⟨pt, 0, none⟩), .int .i64 s.gen, .int .i64 s.epoch, .int .i64 s.pages, .int .i64 s.start, .int .i64 s.len, .int .i64 s.head, .int .i64 s.seq, .int .i64 at_, .int .i64 sq, .int .i64 us, .bool br, .bool nu] 77, tblA pt, diskA pd D], .inl ⟨fun ims => by rintro ⟨q1, q2, q3, q4, q5, q6, q7⟩; first | exact hh q1 | (exfalso; omega) | exact absurd (q6 i (by omega)).1 hi | (have q8 := q6 i (by omega); simp only [imgX, imgY] at q8; exfalso; omega) | exact absurd (show crcSum (catF F (hCnt (F 0))) = headU (F 0) from q7) ‹_›, rfl, rfl⟩, H.perm 7 [3, 2, 4] rfl rfl⟩
    · -- no: (headE (F 0) : Int) ≠ s.epoch
      refine q_do rfl rfl rfl (d_field rfl (k := 1) (r := 1) (by kernel_rfl) rfl rfl) ?_
      refine q_do rfl rfl rfl (d_load rfl rfl (by kernel_rfl) (fun _ hx => hx.cel 0 rfl 1 rfl)) ?_
      refine q_do rfl rfl rfl (d_move rfl rfl) ?_
      refine q_do rfl rfl rfl (d_nilCheck rfl rfl) ?_
      refine q_do rfl rfl rfl (d_field rfl (k := 10) (r := 10) (by kernel_rfl) rfl rfl) ?_
      refine q_do rfl rfl rfl (d_load rfl rfl (by kernel_rfl) (fun _ hx => hx.cel 3 rfl 10 rfl)) ?_
      refine q_do rfl rfl rfl (d_neq rfl rfl rfl) ?_
      refine q_do rfl rfl rfl (d_pick_f rfl rfl rfl) ?_
      refine q_do rfl rfl rfl (d_move rfl rfl) ?_
      refine q_part 65 rfl (fun h2 => ?_) (fun h2 => ?_)
      · -- yes: (headS (F 0) : Int) ≠ sq
        refine q_skip rfl rfl rfl ?_
        refine q_skip rfl rfl rfl ?_
        refine q_skip rfl rfl rfl ?_
        refine q_skip rfl rfl rfl ?_
        refine q_skip rfl rfl rfl ?_
        refine q_skip rfl rfl rfl ?_
        refine q_skip rfl rfl rfl ?_
        refine q_skip rfl rfl rfl ?_
        refine q_skip rfl rfl rfl ?_
        refine q_skip rfl rfl rfl ?_
        refine q_skip rfl rfl rfl ?_
        refine q_skip rfl rfl rfl ?_
        refine q_skip rfl rfl rfl ?_
        refine q_skip rfl rfl rfl ?_
        refine q_skip rfl rfl rfl ?_
        refine q_do rfl rfl rfl (d_pick_t rfl rfl rfl) ?_
        refine q_end (fun w H' => ?_)
        have H : Sep z (blk b3 [.int .i64 (headE (F 0)), .int .i64 (headS (F 0)), .slice ao1 (hCnt (F 0)) cc1, u32 (headU (F 0))] 100 :: poolA hq2 :: tblA pt :: blk pl [.pointer (some ⟨pd, 0, none⟩), .pointer (some ⟨pt, 0, none⟩), .int .i64 s.gen, .int .i64 s.epoch, .int .i64 s.pages, .int .i64 s.start, .int .i64 s.len, .int .i64 s.head, .int .i64 s.seq, .int .i64 at_, .int .i64 sq, .int .i64 us, .bool br, .bool nu] 77 :: diskA pd D :: blk b2 [.int .i64 0, .slice none 0 0] 48 :: blk b1 [.int .i64 0, .slice none 0 0] 48 :: R) w := H'
        clear H'
        refine k_true rfl ?_
        refine k_seq ?_
        refine s_region ?_
        refine s_do rfl rfl rfl (d_loadAgg rfl rfl (vs := [.int .i64 0, .slice none 0 0]) (by kernel_rfl) (here ((H.blk 5 rfl).part 0 2 _ rfl))) ?_
        refine s_put rfl rfl (n_store 6 H rfl rfl rfl rfl (vs := [.int .i64 0, .slice none 0 0]) rfl (by simp [u8, u32, Value.oneCell']) (by kernel_rfl) (by simp) (out := [.int .i64 0, .slice none 0 0]) rfl) ?_
        rintro w H'
        have H : Sep z (blk b3 [.int .i64 (headE (F 0)), .int .i64 (headS (F 0)), .slice ao1 (hCnt (F 0)) cc1, u32 (headU (F 0))] 100 :: poolA hq2 :: tblA pt :: blk pl [.pointer (some ⟨pd, 0, none⟩), .pointer (some ⟨pt, 0, none⟩), .int .i64 s.gen, .int .i64 s.epoch, .int .i64 s.pages, .int .i64 s.start, .int .i64 s.len, .int .i64 s.head, .int .i64 s.seq, .int .i64 at_, .int .i64 sq, .int .i64 us, .bool br, .bool nu] 77 :: diskA pd D :: blk b2 [.int .i64 0, .slice none 0 0] 48 :: blk b1 [.int .i64 0, .slice none 0 0] 48 :: R) w := H'
        clear H'
        refine s_do rfl rfl rfl (d_assign rfl rfl) ?_
        refine s_end ?_
        refine k_ret ?_
        refine doneL rfl [.agg #[.int .i64 0, .slice none 0 0], .int .i64 0] ⟨⟨_, _, rfl, run_loadBlk (by kernel_rfl) (H.blk 6 rfl) (vs := [.int .i64 0, .slice none 0 0]) rfl⟩, ⟨rfl, trivial⟩⟩ (v := .tuple #[.agg #[.int .i64 0, .slice none 0 0], .int .i64 0]) rfl ?_
        exact ⟨[blk pl [.pointer (some ⟨pd, 0, none⟩), .pointer (some ⟨pt, 0, none⟩), .int .i64 s.gen, .int .i64 s.epoch, .int .i64 s.pages, .int .i64 s.start, .int .i64 s.len, .int .i64 s.head, .int .i64 s.seq, .int .i64 at_, .int .i64 sq, .int .i64 us, .bool br, .bool nu] 77, tblA pt, diskA pd D], .inl ⟨fun ims => by rintro ⟨q1, q2, q3, q4, q5, q6, q7⟩; first | exact hh q1 | (exfalso; omega) | exact absurd (q6 i (by omega)).1 hi | (have q8 := q6 i (by omega); simp only [imgX, imgY] at q8; exfalso; omega) | exact absurd (show crcSum (catF F (hCnt (F 0))) = headU (F 0) from q7) ‹_›, rfl, rfl⟩, H.perm 7 [3, 2, 4] rfl rfl⟩
      · -- no: (headS (F 0) : Int) ≠ sq
        refine q_do rfl rfl rfl (d_field rfl (k := 2) (r := 2) (by kernel_rfl) rfl rfl) ?_
        refine q_do rfl rfl rfl (d_load rfl rfl (by kernel_rfl) (fun _ hx => hx.cel 0 rfl 2 rfl)) ?_
        refine q_do rfl rfl rfl (d_len rfl (z := 1) (by kernel_rfl) rfl) ?_
        refine q_do rfl rfl rfl (d_add64 rfl rfl rfl (r := 1 + ((hCnt (F 0) : Nat) : Int)) (by omega) (by omega)) ?_
        refine q_do rfl rfl rfl (d_move rfl rfl) ?_
        refine q_do rfl rfl rfl (d_nilCheck rfl rfl) ?_
        refine q_do rfl rfl rfl (d_field rfl (k := 2) (r := 2) (by kernel_rfl) rfl rfl) ?_
        refine q_do rfl rfl rfl (d_field rfl (k := 4) (r := 6) (by kernel_rfl) rfl rfl) ?_
        refine q_do rfl rfl rfl (d_load rfl rfl (by kernel_rfl) (fun _ hx => hx.cel 3 rfl 6 rfl)) ?_
        refine q_do rfl rfl rfl (d_move rfl rfl) ?_
        refine q_do rfl rfl rfl (d_nilCheck rfl rfl) ?_
        refine q_do rfl rfl rfl (d_field rfl (k := 11) (r := 11) (by kernel_rfl) rfl rfl) ?_
        refine q_do rfl rfl rfl (d_load rfl rfl (by kernel_rfl) (fun _ hx => hx.cel 3 rfl 11 rfl)) ?_
        refine q_do rfl rfl rfl (d_sub64 rfl rfl rfl (r := s.len - us) (by omega) (by omega)) ?_
        refine q_do rfl rfl rfl (d_gtr rfl rfl rfl) ?_
        refine q_do rfl rfl rfl (d_pick_f rfl rfl rfl) ?_
        refine q_end (fun w H' => ?_)
        have H : Sep z (blk b3 [.int .i64 (headE (F 0)), .int .i64 (headS (F 0)), .slice ao1 (hCnt (F 0)) cc1, u32 (headU (F 0))] 100 :: poolA hq2 :: tblA pt :: blk pl [.pointer (some ⟨pd, 0, none⟩), .pointer (some ⟨pt, 0, none⟩), .int .i64 s.gen, .int .i64 s.epoch, .int .i64 s.pages, .int .i64 s.start, .int .i64 s.len, .int .i64 s.head, .int .i64 s.seq, .int .i64 at_, .int .i64 sq, .int .i64 us, .bool br, .bool nu] 77 :: diskA pd D :: blk b2 [.int .i64 0, .slice none 0 0] 48 :: blk b1 [.int .i64 0, .slice none 0 0] 48 :: R) w := H'
        clear H'
        refine k_dec rfl (fun h3 => ?_) (fun h3 => ?_)
        · -- yes: (s.len - us : Int) < (1 + ((hCnt (F 0) : Nat) : Int))
          refine k_seq ?_
          refine s_region ?_
          refine s_do rfl rfl rfl (d_loadAgg rfl rfl (vs := [.int .i64 0, .slice none 0 0]) (by kernel_rfl) (here ((H.blk 5 rfl).part 0 2 _ rfl))) ?_
          refine s_put rfl rfl (n_store 6 H rfl rfl rfl rfl (vs := [.int .i64 0, .slice none 0 0]) rfl (by simp [u8, u32, Value.oneCell']) (by kernel_rfl) (by simp) (out := [.int .i64 0, .slice none 0 0]) rfl) ?_
          rintro w H'
          have H : Sep z (blk b3 [.int .i64 (headE (F 0)), .int .i64 (headS (F 0)), .slice ao1 (hCnt (F 0)) cc1, u32 (headU (F 0))] 100 :: poolA hq2 :: tblA pt :: blk pl [.pointer (some ⟨pd, 0, none⟩), .pointer (some ⟨pt, 0, none⟩), .int .i64 s.gen, .int .i64 s.epoch, .int .i64 s.pages, .int .i64 s.start, .int .i64 s.len, .int .i64 s.head, .int .i64 s.seq, .int .i64 at_, .int .i64 sq, .int .i64 us, .bool br, .bool nu] 77 :: diskA pd D :: blk b2 [.int .i64 0, .slice none 0 0] 48 :: blk b1 [.int .i64 0, .slice none 0 0] 48 :: R) w := H'
          clear H'
          refine s_do rfl rfl rfl (d_assign rfl rfl) ?_
          refine s_end ?_
          refine k_ret ?_
          refine doneL rfl [.agg #[.int .i64 0, .slice none 0 0], .int .i64 0] ⟨⟨_, _, rfl, run_loadBlk (by kernel_rfl) (H.blk 6 rfl) (vs := [.int .i64 0, .slice none 0 0]) rfl⟩, ⟨rfl, trivial⟩⟩ (v := .tuple #[.agg #[.int .i64 0, .slice none 0 0], .int .i64 0]) rfl ?_
          exact ⟨[blk pl [.pointer (some ⟨pd, 0, none⟩), .pointer (some ⟨pt, 0, none⟩), .int .i64 s.gen, .int .i64 s.epoch, .int .i64 s.pages, .int .i64 s.start, .int .i64 s.len, .int .i64 s.head, .int .i64 s.seq, .int .i64 at_, .int .i64 sq, .int .i64 us, .bool br, .bool nu] 77, tblA pt, diskA pd D], .inl ⟨fun ims => by rintro ⟨q1, q2, q3, q4, q5, q6, q7⟩; first | exact hh q1 | (exfalso; omega) | exact absurd (q6 i (by omega)).1 hi | (have q8 := q6 i (by omega); simp only [imgX, imgY] at q8; exfalso; omega) | exact absurd (show crcSum (catF F (hCnt (F 0))) = headU (F 0) from q7) ‹_›, rfl, rfl⟩, H.perm 7 [3, 2, 4] rfl rfl⟩
        · -- no: (s.len - us : Int) < (1 + ((hCnt (F 0) : Nat) : Int))
          refine k_skip ?_
          refine k_seq ?_
          refine s_region ?_
          refine s_do rfl rfl rfl (d_assign rfl rfl) ?_
          refine s_end ?_
          refine k_seq ?_
          refine s_region ?_
          refine s_do rfl rfl rfl (d_assign rfl rfl) ?_
          refine s_end ?_
          refine k_seq ?_
          refine k_seq ?_
          have H' := H.nilg 70 1
          have H : Sep z (grow 70 1 (.slice none 0 0) 0 [] :: blk b3 [.int .i64 (headE (F 0)), .int .i64 (headS (F 0)), .slice ao1 (hCnt (F 0)) cc1, u32 (headU (F 0))] 100 :: poolA hq2 :: tblA pt :: blk pl [.pointer (some ⟨pd, 0, none⟩), .pointer (some ⟨pt, 0, none⟩), .int .i64 s.gen, .int .i64 s.epoch, .int .i64 s.pages, .int .i64 s.start, .int .i64 s.len, .int .i64 s.head, .int .i64 s.seq, .int .i64 at_, .int .i64 sq, .int .i64 us, .bool br, .bool nu] 77 :: diskA pd D :: blk b2 [.int .i64 0, .slice none 0 0] 48 :: blk b1 [.int .i64 0, .slice none 0 0] 48 :: R) w := H'
          clear H'
          refine s_region ?_
          refine s_do rfl rfl rfl (d_field rfl (k := 2) (r := 2) (by kernel_rfl) rfl rfl) ?_
          refine s_do rfl rfl rfl (d_load rfl rfl (by kernel_rfl) (here (H.cel 1 rfl 2 rfl))) ?_
          refine s_do rfl rfl rfl (d_len rfl (z := 1) (by kernel_rfl) rfl) ?_
          refine s_do rfl rfl rfl (d_move rfl rfl) ?_
          refine s_end ?_
          refine k_block ?_
          refine c_loop (σ := Nat × Value × List Value × Hp) (fun ⟨i, v, pvs, hq⟩ => [(86, .int .i64 (i : Int)), (9, u32 (crcSum (catF F i))), (10, v), (0, .pointer (some ⟨pl, 0, none⟩)), (2, .pointer (some ⟨b1, 0, none⟩)), (4, .pointer (some ⟨b2, 0, none⟩)), (7, .pointer (some ⟨b3, 0, none⟩)), (85, .int .i64 ((hCnt (F 0) : Nat) : Int))])
            (fun ⟨i, v, pvs, hq⟩ w => Sep z (grow 70 1 v i pvs :: blk b3 [.int .i64 (headE (F 0)), .int .i64 (headS (F 0)), .slice ao1 (hCnt (F 0)) cc1, u32 (headU (F 0))] 100 :: poolA hq :: tblA pt :: blk pl [.pointer (some ⟨pd, 0, none⟩), .pointer (some ⟨pt, 0, none⟩), .int .i64 s.gen, .int .i64 s.epoch, .int .i64 s.pages, .int .i64 s.start, .int .i64 s.len, .int .i64 s.head, .int .i64 s.seq, .int .i64 at_, .int .i64 sq, .int .i64 us, .bool br, .bool nu] 77 :: diskA pd D :: blk b2 [.int .i64 0, .slice none 0 0] 48 :: blk b1 [.int .i64 0, .slice none 0 0] 48 :: R) w ∧ (i ≤ hCnt (F 0) ∧ pvs.length = i ∧ subH hq2 hq ∧ ∀ (j : Nat) (pv : Value), pvs[j]? = some pv → rdH 1 pv 256 ((F (1 + j)).map u8) hq)) (fun ⟨i, v, pvs, hq⟩ => hCnt (F 0) - i) ⟨0, .slice none 0 0, [], hq2⟩
            (fun _ hF => (hF.cons (hF.cons (hF.cons (hF.cons (hF.cons (hF.cons (hF.cons (hF.cons hF.nil 85 _ _ rfl rfl) 7 _ _ rfl rfl) 4 _ _ rfl rfl) 2 _ _ rfl rfl) 0 _ _ rfl rfl) 10 _ _ rfl (by go_num)) 9 _ _ rfl (crc0 F)) 86 _ _ rfl (by go_num))) ⟨H, by omega, rfl, fun k o e => e, fun j pv h => by simp at h⟩ ?_
          clear H; rintro ⟨i, v, pvs, hq⟩ w ⟨H', hI⟩
          dsimp only at hI H' ⊢
          have H : Sep z (grow 70 1 v i pvs :: blk b3 [.int .i64 (headE (F 0)), .int .i64 (headS (F 0)), .slice ao1 (hCnt (F 0)) cc1, u32 (headU (F 0))] 100 :: poolA hq :: tblA pt :: blk pl [.pointer (some ⟨pd, 0, none⟩), .pointer (some ⟨pt, 0, none⟩), .int .i64 s.gen, .int .i64 s.epoch, .int .i64 s.pages, .int .i64 s.start, .int .i64 s.len, .int .i64 s.head, .int .i64 s.seq, .int .i64 at_, .int .i64 sq, .int .i64 us, .bool br, .bool nu] 77 :: diskA pd D :: blk b2 [.int .i64 0, .slice none 0 0] 48 :: blk b1 [.int .i64 0, .slice none 0 0] 48 :: R) w := H'
          clear H'
          have sv := H.says 0 rfl (fun h q => q.slc)
          obtain ⟨hic, hpl, hsub, hpvs⟩ := hI
          refine k_seq ?_
          refine s_region ?_
          refine s_do rfl rfl rfl (d_lss rfl rfl rfl) ?_
          refine s_end ?_
          refine k_seq ?_
          refine k_dec rfl (fun h4 => ?_) (fun h4 => ?_)
          · -- yes: (i : Int) < ((hCnt (F 0) : Nat) : Int)
            have hlt : i < hCnt (F 0) := by omega
            refine k_skip ?_
            refine k_seq ?_
            refine k_block ?_
            refine k_seq ?_
            refine s_region ?_
            refine s_do rfl rfl rfl (d_move rfl rfl) ?_
            refine s_do rfl rfl rfl (d_assign rfl rfl) ?_
            refine s_end ?_
            refine k_seq ?_
            refine s_region ?_
            refine s_do rfl rfl rfl (d_move rfl rfl) ?_
            refine s_do rfl rfl rfl (d_move rfl rfl) ?_
            refine s_do rfl rfl rfl (d_nilCheck rfl rfl) ?_
            refine s_do rfl rfl rfl (d_field rfl (k := 9) (r := 9) (by kernel_rfl) rfl rfl) ?_
            refine s_do rfl rfl rfl (d_load rfl rfl (by kernel_rfl) (here (H.cel 4 rfl 9 rfl))) ?_
            refine s_do rfl rfl rfl (d_add64 rfl rfl rfl (r := at_ + 1) (by omega) (by omega)) ?_
            refine s_do rfl rfl rfl (d_move rfl rfl) ?_
            refine s_do rfl rfl rfl (d_add64 rfl rfl rfl (r := (at_ + 1) + (i : Int)) (by omega) (by omega)) ?_
            refine s_callC rfl rfl rfl rfl rfl (fun w => Tryz.call43 _ w) (lread_c _ _ _ _ _ _ _ _ _ _ _ hf1 hr (by omega) (F (1 + i)) (by rw [hF]; congr 2; omega)) H 6 [4, 5, 0, 1, 2, 3] rfl rfl ?_
            rintro _ w _ ⟨g, cap, rest, rfl, ⟨cg, cc, cl⟩, rfl⟩ H'
            have H : Sep z (blk g ((F (1 + i)).map u8 ++ rest) 5 :: blk pl [.pointer (some ⟨pd, 0, none⟩), .pointer (some ⟨pt, 0, none⟩), .int .i64 s.gen, .int .i64 s.epoch, .int .i64 s.pages, .int .i64 s.start, .int .i64 s.len, .int .i64 s.head, .int .i64 s.seq, .int .i64 at_, .int .i64 sq, .int .i64 us, .bool br, .bool nu] 77 :: diskA pd D :: grow 70 1 v i pvs :: blk b3 [.int .i64 (headE (F 0)), .int .i64 (headS (F 0)), .slice ao1 (hCnt (F 0)) cc1, u32 (headU (F 0))] 100 :: poolA hq :: tblA pt :: blk b2 [.int .i64 0, .slice none 0 0] 48 :: blk b1 [.int .i64 0, .slice none 0 0] 48 :: R) w := H'
            clear H'
            have H' := H.pick 9 [5, 0, 1, 2, 3, 4, 6, 7, 8] rfl
            have H : Sep z (poolA hq :: blk g ((F (1 + i)).map u8 ++ rest) 5 :: blk pl [.pointer (some ⟨pd, 0, none⟩), .pointer (some ⟨pt, 0, none⟩), .int .i64 s.gen, .int .i64 s.epoch, .int .i64 s.pages, .int .i64 s.start, .int .i64 s.len, .int .i64 s.head, .int .i64 s.seq, .int .i64 at_, .int .i64 sq, .int .i64 us, .bool br, .bool nu] 77 :: diskA pd D :: grow 70 1 v i pvs :: blk b3 [.int .i64 (headE (F 0)), .int .i64 (headS (F 0)), .slice ao1 (hCnt (F 0)) cc1, u32 (headU (F 0))] 100 :: tblA pt :: blk b2 [.int .i64 0, .slice none 0 0] 48 :: blk b1 [.int .i64 0, .slice none 0 0] 48 :: R) w := H'
            clear H'
            obtain ⟨hq3, ⟨shq3, hshq3⟩, H'⟩ := pool_rd H (fun h q => blk_sec q (hF1 _) ⟨cg, cc, cl⟩)
            clear H
            have H : Sep z (poolA hq3 :: blk pl [.pointer (some ⟨pd, 0, none⟩), .pointer (some ⟨pt, 0, none⟩), .int .i64 s.gen, .int .i64 s.epoch, .int .i64 s.pages, .int .i64 s.start, .int .i64 s.len, .int .i64 s.head, .int .i64 s.seq, .int .i64 at_, .int .i64 sq, .int .i64 us, .bool br, .bool nu] 77 :: diskA pd D :: grow 70 1 v i pvs :: blk b3 [.int .i64 (headE (F 0)), .int .i64 (headS (F 0)), .slice ao1 (hCnt (F 0)) cc1, u32 (headU (F 0))] 100 :: tblA pt :: blk b2 [.int .i64 0, .slice none 0 0] 48 :: blk b1 [.int .i64 0, .slice none 0 0] 48 :: R) w := H'
            clear H'
            refine s_do rfl rfl rfl (d_move rfl rfl) ?_
            refine s_do rfl rfl rfl (d_extract rfl rfl rfl) ?_
            refine s_do rfl rfl rfl (d_extract rfl rfl rfl) ?_
            refine s_do rfl rfl rfl (d_assign rfl rfl) ?_
            refine s_do rfl rfl rfl (d_assign rfl rfl) ?_
            refine s_end ?_
            refine k_seq ?_
            refine k_seq ?_
            refine s_region ?_
            refine s_do rfl rfl rfl (d_move rfl rfl) ?_
            refine s_do rfl rfl rfl (d_neq rfl rfl rfl) ?_
            refine k_updA 102 (u := .bool (decide ((0 : Int) ≠ 0))) (v := .bool false) rfl (congrArg Value.bool (by decide)) ?_
            refine s_end ?_
            refine k_false rfl ?_
            refine k_skip ?_
            refine k_seq ?_
            refine s_region ?_
            refine s_do rfl rfl rfl (d_move rfl rfl) ?_
            refine s_do rfl rfl rfl (d_nilCheck rfl rfl) ?_
            refine s_do rfl rfl rfl (d_field rfl (k := 1) (r := 1) (by kernel_rfl) rfl rfl) ?_
            refine s_do rfl rfl rfl (d_load rfl rfl (by kernel_rfl) (here (H.cel 1 rfl 1 rfl))) ?_
            refine s_do rfl rfl rfl (d_move rfl rfl) ?_
            refine s_do rfl rfl rfl (d_move rfl rfl) ?_
            refine s_callC rfl rfl rfl rfl rfl (fun w => Tryz.call45 _ w) (moren_c _ _ _ 256 (F (1 + i)) (hF1 _) _ (fun h q => hshq3.le q)) H 6 [5, 0, 1, 2, 3, 4] rfl rfl ?_
            rintro _ w _ ⟨rfl, rfl⟩ H'
            have H : Sep z (tblA pt :: poolA hq3 :: blk pl [.pointer (some ⟨pd, 0, none⟩), .pointer (some ⟨pt, 0, none⟩), .int .i64 s.gen, .int .i64 s.epoch, .int .i64 s.pages, .int .i64 s.start, .int .i64 s.len, .int .i64 s.head, .int .i64 s.seq, .int .i64 at_, .int .i64 sq, .int .i64 us, .bool br, .bool nu] 77 :: diskA pd D :: grow 70 1 v i pvs :: blk b3 [.int .i64 (headE (F 0)), .int .i64 (headS (F 0)), .slice ao1 (hCnt (F 0)) cc1, u32 (headU (F 0))] 100 :: blk b2 [.int .i64 0, .slice none 0 0] 48 :: blk b1 [.int .i64 0, .slice none 0 0] 48 :: R) w := H'
            clear H'
            refine s_do rfl rfl rfl (d_assign rfl rfl) ?_
            refine s_end ?_
            refine s_region ?_
            refine s_do rfl rfl rfl (d_move rfl rfl) ?_
            refine s_do rfl rfl rfl (d_move rfl rfl) ?_
            refine s_go rfl rfl rfl (n_buildSlice H rfl (by kernel_rfl) (Elt.mk (P := Tryz.prog) (e := 70) (z := .slice none 0 0) (sz := 1) (by_ := 24) (by kernel_rfl) rfl (by omega) (by omega)) rfl (by decide) (by decide) (out := [.slice (some ⟨g, 0, none⟩) 256 cap]) (by kernel_rfl)) ?_
            rintro _ w ⟨b4, rfl, H'⟩
            have H : Sep z (blk b4 [.slice (some ⟨g, 0, none⟩) 256 cap] 70 :: tblA pt :: poolA hq3 :: blk pl [.pointer (some ⟨pd, 0, none⟩), .pointer (some ⟨pt, 0, none⟩), .int .i64 s.gen, .int .i64 s.epoch, .int .i64 s.pages, .int .i64 s.start, .int .i64 s.len, .int .i64 s.head, .int .i64 s.seq, .int .i64 at_, .int .i64 sq, .int .i64 us, .bool br, .bool nu] 77 :: diskA pd D :: grow 70 1 v i pvs :: blk b3 [.int .i64 (headE (F 0)), .int .i64 (headS (F 0)), .slice ao1 (hCnt (F 0)) cc1, u32 (headU (F 0))] 100 :: blk b2 [.int .i64 0, .slice none 0 0] 48 :: blk b1 [.int .i64 0, .slice none 0 0] 48 :: R) w := H'
            clear H'
            refine s_go rfl rfl rfl (n_append 5 H rfl rfl (by kernel_rfl) (Elt.mk (P := Tryz.prog) (e := 70) (z := .slice none 0 0) (sz := 1) (by_ := 24) (by kernel_rfl) rfl (by omega) (by omega)) rfl rfl (H.rd 0 rfl (fun h q => q.rd (by omega) (by omega) (by simp) rfl)) (by simp [Value.oneCell']) (by omega)) ?_
            rintro v5 w H'
            have H : Sep z (blk b4 [.slice (some ⟨g, 0, none⟩) 256 cap] 70 :: tblA pt :: poolA hq3 :: blk pl [.pointer (some ⟨pd, 0, none⟩), .pointer (some ⟨pt, 0, none⟩), .int .i64 s.gen, .int .i64 s.epoch, .int .i64 s.pages, .int .i64 s.start, .int .i64 s.len, .int .i64 s.head, .int .i64 s.seq, .int .i64 at_, .int .i64 sq, .int .i64 us, .bool br, .bool nu] 77 :: diskA pd D :: grow 70 1 v5 (i + 1) (pvs ++ [.slice (some ⟨g, 0, none⟩) 256 cap]) :: blk b3 [.int .i64 (headE (F 0)), .int .i64 (headS (F 0)), .slice ao1 (hCnt (F 0)) cc1, u32 (headU (F 0))] 100 :: blk b2 [.int .i64 0, .slice none 0 0] 48 :: blk b1 [.int .i64 0, .slice none 0 0] 48 :: R) w := H'
            clear H'
            have sv5 := H.says 5 rfl (fun h q => q.slc)
            refine s_do rfl rfl rfl (d_assign rfl rfl) ?_
            refine s_end ?_
            refine s_region ?_
            refine s_do rfl rfl rfl (d_add64 rfl rfl rfl (r := (i : Int) + 1) (by omega) (by omega)) ?_
            refine s_do rfl rfl rfl (d_move rfl rfl) ?_
            refine s_end ?_
            have H' := H.pick 9 [5, 6, 2, 1, 3, 4, 7, 8] rfl
            have H : Sep z (grow 70 1 v5 (i + 1) (pvs ++ [.slice (some ⟨g, 0, none⟩) 256 cap]) :: blk b3 [.int .i64 (headE (F 0)), .int .i64 (headS (F 0)), .slice ao1 (hCnt (F 0)) cc1, u32 (headU (F 0))] 100 :: poolA hq3 :: tblA pt :: blk pl [.pointer (some ⟨pd, 0, none⟩), .pointer (some ⟨pt, 0, none⟩), .int .i64 s.gen, .int .i64 s.epoch, .int .i64 s.pages, .int .i64 s.start, .int .i64 s.len, .int .i64 s.head, .int .i64 s.seq, .int .i64 at_, .int .i64 sq, .int .i64 us, .bool br, .bool nu] 77 :: diskA pd D :: blk b2 [.int .i64 0, .slice none 0 0] 48 :: blk b1 [.int .i64 0, .slice none 0 0] 48 :: R) w := H'
            clear H'
            intro _ hF
            refine ⟨⟨i + 1, v5, pvs ++ [.slice (some ⟨g, 0, none⟩) 256 cap], hq3⟩, (hF.cons (hF.cons (hF.cons (hF.cons (hF.cons (hF.cons (hF.cons (hF.cons hF.nil 85 _ _ rfl rfl) 7 _ _ rfl rfl) 4 _ _ rfl rfl) 2 _ _ rfl rfl) 0 _ _ rfl rfl) 10 _ _ rfl rfl) 9 _ _ rfl (congrArg u32 (crc_succ F i))) 86 _ _ rfl (by go_num)), ⟨H, ?_⟩, ?_⟩
            · refine ⟨by omega, by simp [hpl], fun k o e => shq3 k o (hsub k o e), fun j pv h => ?_⟩
              rcases Nat.lt_or_ge j i with q | q
              · rw [List.getElem?_append_left (by omega)] at h; exact (hpvs j pv h).le shq3
              · rw [List.getElem?_append_right (by omega)] at h
                obtain rfl : j = i := by have := (List.getElem?_eq_some_iff.1 h).1; simp at this; omega
                simp [hpl] at h; subst h; exact hshq3
            · omega
          · -- no: (i : Int) < ((hCnt (F 0) : Nat) : Int)
            obtain rfl : i = hCnt (F 0) := by omega
            refine k_exit ?_
            refine k_here ?_
            refine k_seq ?_
            obtain ⟨ao2, cc2, rfl⟩ := H.says 0 rfl (fun h q => q.slc)
            have H : Sep z (grow 70 1 (.slice ao2 (hCnt (F 0)) cc2) (hCnt (F 0)) pvs :: blk b3 [.int .i64 (headE (F 0)), .int .i64 (headS (F 0)), .slice ao1 (hCnt (F 0)) cc1, u32 (headU (F 0))] 100 :: poolA hq :: tblA pt :: blk pl [.pointer (some ⟨pd, 0, none⟩), .pointer (some ⟨pt, 0, none⟩), .int .i64 s.gen, .int .i64 s.epoch, .int .i64 s.pages, .int .i64 s.start, .int .i64 s.len, .int .i64 s.head, .int .i64 s.seq, .int .i64 at_, .int .i64 sq, .int .i64 us, .bool br, .bool nu] 77 :: diskA pd D :: blk b2 [.int .i64 0, .slice none 0 0] 48 :: blk b1 [.int .i64 0, .slice none 0 0] 48 :: R) w := H
            have H' := H.pick 8 [2, 0, 1, 3, 4, 5, 6, 7] rfl
            have H : Sep z (poolA hq :: grow 70 1 (.slice ao2 (hCnt (F 0)) cc2) (hCnt (F 0)) pvs :: blk b3 [.int .i64 (headE (F 0)), .int .i64 (headS (F 0)), .slice ao1 (hCnt (F 0)) cc1, u32 (headU (F 0))] 100 :: tblA pt :: blk pl [.pointer (some ⟨pd, 0, none⟩), .pointer (some ⟨pt, 0, none⟩), .int .i64 s.gen, .int .i64 s.epoch, .int .i64 s.pages, .int .i64 s.start, .int .i64 s.len, .int .i64 s.head, .int .i64 s.seq, .int .i64 at_, .int .i64 sq, .int .i64 us, .bool br, .bool nu] 77 :: diskA pd D :: blk b2 [.int .i64 0, .slice none 0 0] 48 :: blk b1 [.int .i64 0, .slice none 0 0] 48 :: R) w := H'
            clear H'
            obtain ⟨hq4, ⟨shq4, hpv4⟩, H'⟩ := pool_rd H (fun h q => q.rd)
            clear H
            have H : Sep z (poolA hq4 :: blk b3 [.int .i64 (headE (F 0)), .int .i64 (headS (F 0)), .slice ao1 (hCnt (F 0)) cc1, u32 (headU (F 0))] 100 :: tblA pt :: blk pl [.pointer (some ⟨pd, 0, none⟩), .pointer (some ⟨pt, 0, none⟩), .int .i64 s.gen, .int .i64 s.epoch, .int .i64 s.pages, .int .i64 s.start, .int .i64 s.len, .int .i64 s.head, .int .i64 s.seq, .int .i64 at_, .int .i64 sq, .int .i64 us, .bool br, .bool nu] 77 :: diskA pd D :: blk b2 [.int .i64 0, .slice none 0 0] 48 :: blk b1 [.int .i64 0, .slice none 0 0] 48 :: R) w := H'
            clear H'
            have hns4 := hns.le (fun k o e => shq4 k o (hsub k o e))
            have H' := H.nilg 85 3
            have H : Sep z (grow 85 3 (.slice none 0 0) 0 [] :: poolA hq4 :: blk b3 [.int .i64 (headE (F 0)), .int .i64 (headS (F 0)), .slice ao1 (hCnt (F 0)) cc1, u32 (headU (F 0))] 100 :: tblA pt :: blk pl [.pointer (some ⟨pd, 0, none⟩), .pointer (some ⟨pt, 0, none⟩), .int .i64 s.gen, .int .i64 s.epoch, .int .i64 s.pages, .int .i64 s.start, .int .i64 s.len, .int .i64 s.head, .int .i64 s.seq, .int .i64 at_, .int .i64 sq, .int .i64 us, .bool br, .bool nu] 77 :: diskA pd D :: blk b2 [.int .i64 0, .slice none 0 0] 48 :: blk b1 [.int .i64 0, .slice none 0 0] 48 :: R) w := H'
            clear H'
            refine s_region ?_
            refine s_do rfl rfl rfl (d_move rfl rfl) ?_
            refine s_do rfl rfl rfl (d_nilCheck rfl rfl) ?_
            refine s_do rfl rfl rfl (d_field rfl (k := 10) (r := 10) (by kernel_rfl) rfl rfl) ?_
            refine s_do rfl rfl rfl (d_load rfl rfl (by kernel_rfl) (here (H.cel 4 rfl 10 rfl))) ?_
            refine s_do rfl rfl rfl (d_build rfl rfl (out := [.int .i64 sq, .slice none 0 0]) (by kernel_rfl)) ?_
            refine s_go rfl rfl rfl (n_alloc (P := Tryz.prog) H rfl (zs := [.int .i64 0, .slice none 0 0]) (by kernel_rfl)) ?_
            rintro _ w ⟨b6, rfl, H'⟩
            have H : Sep z (blk b6 [.int .i64 0, .slice none 0 0] 48 :: grow 85 3 (.slice none 0 0) 0 [] :: poolA hq4 :: blk b3 [.int .i64 (headE (F 0)), .int .i64 (headS (F 0)), .slice ao1 (hCnt (F 0)) cc1, u32 (headU (F 0))] 100 :: tblA pt :: blk pl [.pointer (some ⟨pd, 0, none⟩), .pointer (some ⟨pt, 0, none⟩), .int .i64 s.gen, .int .i64 s.epoch, .int .i64 s.pages, .int .i64 s.start, .int .i64 s.len, .int .i64 s.head, .int .i64 s.seq, .int .i64 at_, .int .i64 sq, .int .i64 us, .bool br, .bool nu] 77 :: diskA pd D :: blk b2 [.int .i64 0, .slice none 0 0] 48 :: blk b1 [.int .i64 0, .slice none 0 0] 48 :: R) w := H'
            clear H'
            refine s_put rfl rfl (n_store 0 H rfl rfl rfl rfl (vs := [.int .i64 sq, .slice none 0 0]) rfl (by simp [u8, u32, Value.oneCell']) (by kernel_rfl) (by simp) (out := [.int .i64 sq, .slice none 0 0]) rfl) ?_
            rintro w H'
            have H : Sep z (blk b6 [.int .i64 sq, .slice none 0 0] 48 :: grow 85 3 (.slice none 0 0) 0 [] :: poolA hq4 :: blk b3 [.int .i64 (headE (F 0)), .int .i64 (headS (F 0)), .slice ao1 (hCnt (F 0)) cc1, u32 (headU (F 0))] 100 :: tblA pt :: blk pl [.pointer (some ⟨pd, 0, none⟩), .pointer (some ⟨pt, 0, none⟩), .int .i64 s.gen, .int .i64 s.epoch, .int .i64 s.pages, .int .i64 s.start, .int .i64 s.len, .int .i64 s.head, .int .i64 s.seq, .int .i64 at_, .int .i64 sq, .int .i64 us, .bool br, .bool nu] 77 :: diskA pd D :: blk b2 [.int .i64 0, .slice none 0 0] 48 :: blk b1 [.int .i64 0, .slice none 0 0] 48 :: R) w := H'
            clear H'
            refine s_end ?_
            refine k_seq ?_
            refine k_seq ?_
            refine s_region ?_
            refine s_do rfl rfl rfl (d_move rfl rfl) ?_
            refine s_do rfl rfl rfl (d_len rfl (z := 1) (by kernel_rfl) rfl) ?_
            refine s_do rfl rfl rfl (d_move rfl rfl) ?_
            refine s_end ?_
            refine k_block ?_
            refine c_loop (σ := Nat × Value × List ImE × Hp) (fun ⟨i, v, es, hq5⟩ => [(124, .int .i64 (i : Int)), (0, .pointer (some ⟨pl, 0, none⟩)), (2, .pointer (some ⟨b1, 0, none⟩)), (4, .pointer (some ⟨b2, 0, none⟩)), (7, .pointer (some ⟨b3, 0, none⟩)), (9, u32 (crcSum (catF F (hCnt (F 0))))), (14, .pointer (some ⟨b6, 0, none⟩)), (122, .slice ao2 (hCnt (F 0)) cc2), (123, .int .i64 ((hCnt (F 0) : Nat) : Int))])
              (fun ⟨i, v, es, hq5⟩ w => Sep z (blk b6 [.int .i64 sq, v] 48 :: grow 85 3 v i (imC es) :: poolA hq5 :: blk b3 [.int .i64 (headE (F 0)), .int .i64 (headS (F 0)), .slice ao1 (hCnt (F 0)) cc1, u32 (headU (F 0))] 100 :: tblA pt :: blk pl [.pointer (some ⟨pd, 0, none⟩), .pointer (some ⟨pt, 0, none⟩), .int .i64 s.gen, .int .i64 s.epoch, .int .i64 s.pages, .int .i64 s.start, .int .i64 s.len, .int .i64 s.head, .int .i64 s.seq, .int .i64 at_, .int .i64 sq, .int .i64 us, .bool br, .bool nu] 77 :: diskA pd D :: blk b2 [.int .i64 0, .slice none 0 0] 48 :: blk b1 [.int .i64 0, .slice none 0 0] 48 :: R) w ∧ (i ≤ hCnt (F 0) ∧ es.length = i ∧ es.map Prod.fst = (List.range i).map (fun j => imgOf (F (1 + j))) ∧ subH hq4 hq5 ∧ imesOk es hq5 ∧ ∀ j, j < i → imgP (F (1 + j)) ∧ imgX (F (1 + j)) = s.epoch ∧ imgY (F (1 + j)) = sq ∧ (imgOf (F (1 + j))).num = hNum (F 0) j ∧ crcSum (catF F (hCnt (F 0))) = headU (F 0))) (fun ⟨i, v, es, hq5⟩ => hCnt (F 0) - i) ⟨0, .slice none 0 0, [], hq4⟩
              (fun _ hF => (hF.cons (hF.cons (hF.cons (hF.cons (hF.cons (hF.cons (hF.cons (hF.cons (hF.cons hF.nil 123 _ _ rfl rfl) 122 _ _ rfl rfl) 14 _ _ rfl rfl) 9 _ _ rfl rfl) 7 _ _ rfl rfl) 4 _ _ rfl rfl) 2 _ _ rfl rfl) 0 _ _ rfl rfl) 124 _ _ rfl (by go_num))) ⟨H, by omega, rfl, rfl, fun k o e => e, fun e he => absurd he (by simp), fun j h => by omega⟩ ?_
            clear H; rintro ⟨i, v, es, hq5⟩ w ⟨H', hI⟩
            dsimp only at hI H' ⊢
            have H : Sep z (blk b6 [.int .i64 sq, v] 48 :: grow 85 3 v i (imC es) :: poolA hq5 :: blk b3 [.int .i64 (headE (F 0)), .int .i64 (headS (F 0)), .slice ao1 (hCnt (F 0)) cc1, u32 (headU (F 0))] 100 :: tblA pt :: blk pl [.pointer (some ⟨pd, 0, none⟩), .pointer (some ⟨pt, 0, none⟩), .int .i64 s.gen, .int .i64 s.epoch, .int .i64 s.pages, .int .i64 s.start, .int .i64 s.len, .int .i64 s.head, .int .i64 s.seq, .int .i64 at_, .int .i64 sq, .int .i64 us, .bool br, .bool nu] 77 :: diskA pd D :: blk b2 [.int .i64 0, .slice none 0 0] 48 :: blk b1 [.int .i64 0, .slice none 0 0] 48 :: R) w := H'
            clear H'
            have sv := H.says 1 rfl (fun h q => q.slc)
            obtain ⟨hic, hel, hes, hsub5, hok, hall⟩ := hI
            refine k_seq ?_
            refine s_region ?_
            refine s_do rfl rfl rfl (d_lss rfl rfl rfl) ?_
            refine s_end ?_
            refine k_seq ?_
            refine k_dec rfl (fun h5 => ?_) (fun h5 => ?_)
            · -- yes: (i : Int) < ((hCnt (F 0) : Nat) : Int)
              have hlt : i < hCnt (F 0) := by omega
              refine k_skip ?_
              refine k_seq ?_
              refine k_block ?_
              refine k_seq ?_
              obtain ⟨pv, hpv⟩ : ∃ pv, pvs[i]? = some pv := ⟨_, List.getElem?_eq_getElem (by omega)⟩
              have hsec := (hpvs i pv hpv).le (fun k o e => hsub5 k o (shq4 k o e))
              obtain ⟨sb, so, sc, rfl⟩ := hsec.sl (by rw [List.length_map, hF1]; decide)
              have hat2 := (H.rd 2 rfl (fun h q => (hpv4.le hsub5).le q)).at (j := i) hpv
              have hat1 := (H.rd 2 rfl (fun h q => (hns4.le hsub5).le q)).at (j := i) (u := .int .i64 (hNum (F 0) i)) (by simp [hN, show i < hCnt (F 0) from by omega])
              refine s_region ?_
              refine s_do rfl rfl rfl (d_move rfl rfl) ?_
              refine s_do rfl rfl rfl (d_indexE rfl (z := 1) (j := i) (r := i) (by kernel_rfl) rfl rfl rfl (by omega) hat2 (by omega)) ?_
              refine s_do rfl rfl rfl (d_loadE rfl rfl (by kernel_rfl) (here hat2)) ?_
              refine s_do rfl rfl rfl (d_assign rfl rfl) ?_
              refine s_do rfl rfl rfl (d_assign rfl rfl) ?_
              refine s_end ?_
              refine k_seq ?_
              refine s_region ?_
              refine s_do rfl rfl rfl (d_move rfl rfl) ?_
              refine s_do rfl rfl rfl (d_nilCheck rfl rfl) ?_
              refine s_do rfl rfl rfl (d_field rfl (k := 1) (r := 1) (by kernel_rfl) rfl rfl) ?_
              refine s_do rfl rfl rfl (d_load rfl rfl (by kernel_rfl) (here (H.cel 5 rfl 1 rfl))) ?_
              refine s_do rfl rfl rfl (d_move rfl rfl) ?_
              refine s_callC rfl rfl rfl rfl rfl (fun w => Tryz.call46 _ w) (getImage_c _ _ _ _ (F (1 + i)) _ (fun h q => hsec.le q)) H 5 [4, 2, 0, 1, 3] rfl rfl ?_
              rintro _ w _ (⟨hi, g3, cap3, rest3, rfl, ⟨cg3, cc3, cl3⟩, rfl⟩ | ⟨hi, rfl, rfl⟩) H'
              · -- a case
                have H : Sep z (blk g3 (((F (1 + i)).drop 12 |>.take 240).map u8 ++ rest3) 5 :: tblA pt :: poolA hq5 :: blk b6 [.int .i64 sq, v] 48 :: grow 85 3 v i (imC es) :: blk b3 [.int .i64 (headE (F 0)), .int .i64 (headS (F 0)), .slice ao1 (hCnt (F 0)) cc1, u32 (headU (F 0))] 100 :: blk pl [.pointer (some ⟨pd, 0, none⟩), .pointer (some ⟨pt, 0, none⟩), .int .i64 s.gen, .int .i64 s.epoch, .int .i64 s.pages, .int .i64 s.start, .int .i64 s.len, .int .i64 s.head, .int .i64 s.seq, .int .i64 at_, .int .i64 sq, .int .i64 us, .bool br, .bool nu] 77 :: diskA pd D :: blk b2 [.int .i64 0, .slice none 0 0] 48 :: blk b1 [.int .i64 0, .slice none 0 0] 48 :: R) w := H'
                clear H'
                refine s_do rfl rfl rfl (d_move rfl rfl) ?_
                have H' := H.pick 10 [2, 0, 1, 3, 4, 5, 6, 7, 8, 9] rfl
                have H : Sep z (poolA hq5 :: blk g3 (((F (1 + i)).drop 12 |>.take 240).map u8 ++ rest3) 5 :: tblA pt :: blk b6 [.int .i64 sq, v] 48 :: grow 85 3 v i (imC es) :: blk b3 [.int .i64 (headE (F 0)), .int .i64 (headS (F 0)), .slice ao1 (hCnt (F 0)) cc1, u32 (headU (F 0))] 100 :: blk pl [.pointer (some ⟨pd, 0, none⟩), .pointer (some ⟨pt, 0, none⟩), .int .i64 s.gen, .int .i64 s.epoch, .int .i64 s.pages, .int .i64 s.start, .int .i64 s.len, .int .i64 s.head, .int .i64 s.seq, .int .i64 at_, .int .i64 sq, .int .i64 us, .bool br, .bool nu] 77 :: diskA pd D :: blk b2 [.int .i64 0, .slice none 0 0] 48 :: blk b1 [.int .i64 0, .slice none 0 0] 48 :: R) w := H'
                clear H'
                obtain ⟨hq6, ⟨shq6, hbody⟩, H'⟩ := pool_rd H (fun h q => blk_sec q (by simp [hF1]) ⟨cg3, cc3, cl3⟩)
                clear H
                have H : Sep z (poolA hq6 :: tblA pt :: blk b6 [.int .i64 sq, v] 48 :: grow 85 3 v i (imC es) :: blk b3 [.int .i64 (headE (F 0)), .int .i64 (headS (F 0)), .slice ao1 (hCnt (F 0)) cc1, u32 (headU (F 0))] 100 :: blk pl [.pointer (some ⟨pd, 0, none⟩), .pointer (some ⟨pt, 0, none⟩), .int .i64 s.gen, .int .i64 s.epoch, .int .i64 s.pages, .int .i64 s.start, .int .i64 s.len, .int .i64 s.head, .int .i64 s.seq, .int .i64 at_, .int .i64 sq, .int .i64 us, .bool br, .bool nu] 77 :: diskA pd D :: blk b2 [.int .i64 0, .slice none 0 0] 48 :: blk b1 [.int .i64 0, .slice none 0 0] 48 :: R) w := H'
                clear H'
                refine s_do rfl rfl rfl (d_extract rfl rfl rfl) ?_
                refine s_do rfl rfl rfl (d_extract rfl rfl rfl) ?_
                refine s_do rfl rfl rfl (d_extract rfl rfl rfl) ?_
                refine s_do rfl rfl rfl (d_extract rfl rfl rfl) ?_
                refine s_go rfl rfl rfl (n_alloc (P := Tryz.prog) H rfl (zs := [.int .i64 0, .int .i64 0, .slice none 0 0]) (by kernel_rfl)) ?_
                rintro _ w ⟨b7, rfl, H'⟩
                have H : Sep z (blk b7 [.int .i64 0, .int .i64 0, .slice none 0 0] 85 :: poolA hq6 :: tblA pt :: blk b6 [.int .i64 sq, v] 48 :: grow 85 3 v i (imC es) :: blk b3 [.int .i64 (headE (F 0)), .int .i64 (headS (F 0)), .slice ao1 (hCnt (F 0)) cc1, u32 (headU (F 0))] 100 :: blk pl [.pointer (some ⟨pd, 0, none⟩), .pointer (some ⟨pt, 0, none⟩), .int .i64 s.gen, .int .i64 s.epoch, .int .i64 s.pages, .int .i64 s.start, .int .i64 s.len, .int .i64 s.head, .int .i64 s.seq, .int .i64 at_, .int .i64 sq, .int .i64 us, .bool br, .bool nu] 77 :: diskA pd D :: blk b2 [.int .i64 0, .slice none 0 0] 48 :: blk b1 [.int .i64 0, .slice none 0 0] 48 :: R) w := H'
                clear H'
                refine s_do rfl rfl rfl (d_assign rfl rfl) ?_
                refine s_do rfl rfl rfl (d_assign rfl rfl) ?_
                refine s_put rfl rfl (n_store 0 H rfl rfl rfl rfl (vs := [.int .i64 ((imgOf (F (1 + i))).num), .int .i64 ((imgOf (F (1 + i))).kind), .slice (some ⟨g3, 0, none⟩) 240 cap3]) rfl (by simp [u8, u32, Value.oneCell']) (by kernel_rfl) (by simp) (out := [.int .i64 ((imgOf (F (1 + i))).num), .int .i64 ((imgOf (F (1 + i))).kind), .slice (some ⟨g3, 0, none⟩) 240 cap3]) rfl) ?_
                rintro w H'
                have H : Sep z (blk b7 [.int .i64 ((imgOf (F (1 + i))).num), .int .i64 ((imgOf (F (1 + i))).kind), .slice (some ⟨g3, 0, none⟩) 240 cap3] 85 :: poolA hq6 :: tblA pt :: blk b6 [.int .i64 sq, v] 48 :: grow 85 3 v i (imC es) :: blk b3 [.int .i64 (headE (F 0)), .int .i64 (headS (F 0)), .slice ao1 (hCnt (F 0)) cc1, u32 (headU (F 0))] 100 :: blk pl [.pointer (some ⟨pd, 0, none⟩), .pointer (some ⟨pt, 0, none⟩), .int .i64 s.gen, .int .i64 s.epoch, .int .i64 s.pages, .int .i64 s.start, .int .i64 s.len, .int .i64 s.head, .int .i64 s.seq, .int .i64 at_, .int .i64 sq, .int .i64 us, .bool br, .bool nu] 77 :: diskA pd D :: blk b2 [.int .i64 0, .slice none 0 0] 48 :: blk b1 [.int .i64 0, .slice none 0 0] 48 :: R) w := H'
                clear H'
                refine s_do rfl rfl rfl (d_assign rfl rfl) ?_
                refine s_end ?_
                refine k_seq ?_
                refine k_seq ?_
                refine q_region (Sep z (blk b7 [.int .i64 ((imgOf (F (1 + i))).num), .int .i64 ((imgOf (F (1 + i))).kind), .slice (some ⟨g3, 0, none⟩) 240 cap3] 85 :: poolA hq6 :: tblA pt :: blk b6 [.int .i64 sq, v] 48 :: grow 85 3 v i (imC es) :: blk b3 [.int .i64 (headE (F 0)), .int .i64 (headS (F 0)), .slice ao1 (hCnt (F 0)) cc1, u32 (headU (F 0))] 100 :: blk pl [.pointer (some ⟨pd, 0, none⟩), .pointer (some ⟨pt, 0, none⟩), .int .i64 s.gen, .int .i64 s.epoch, .int .i64 s.pages, .int .i64 s.start, .int .i64 s.len, .int .i64 s.head, .int .i64 s.seq, .int .i64 at_, .int .i64 sq, .int .i64 us, .bool br, .bool nu] 77 :: diskA pd D :: blk b2 [.int .i64 0, .slice none 0 0] 48 :: blk b1 [.int .i64 0, .slice none 0 0] 48 :: R)) (by kernel_rfl) (by kernel_rfl) H.drew ?_
                refine q_do rfl rfl rfl (d_move rfl rfl) ?_
                refine q_do rfl rfl rfl (d_not rfl rfl) ?_
                refine q_do rfl rfl rfl (d_move rfl rfl) ?_
                refine q_do rfl rfl rfl (d_move rfl rfl) ?_
                refine q_do rfl rfl rfl (d_field rfl (k := 0) (r := 0) (by kernel_rfl) rfl rfl) ?_
                refine q_do rfl rfl rfl (d_load rfl rfl (by kernel_rfl) (fun _ hx => hx.cel 5 rfl 0 rfl)) ?_
                refine q_do rfl rfl rfl (d_neq rfl rfl rfl) ?_
                refine q_do rfl rfl rfl (d_pick_f rfl rfl rfl) ?_
                refine q_do rfl rfl rfl (d_move rfl rfl) ?_
                refine q_part 148 rfl (fun h6 => ?_) (fun h6 => ?_)
                · -- yes: (imgX (F (1 + i)) : Int) ≠ (headE (F 0))
                  refine q_skip rfl rfl rfl ?_
                  refine q_skip rfl rfl rfl ?_
                  refine q_skip rfl rfl rfl ?_
                  refine q_skip rfl rfl rfl ?_
                  refine q_do rfl rfl rfl (d_pick_t rfl rfl rfl) ?_
                  refine q_do rfl rfl rfl (d_move rfl rfl) ?_
                  refine q_skip rfl rfl rfl ?_
                  refine q_skip rfl rfl rfl ?_
                  refine q_skip rfl rfl rfl ?_
                  refine q_skip rfl rfl rfl ?_
                  refine q_skip rfl rfl rfl ?_
                  refine q_skip rfl rfl rfl ?_
                  refine q_skip rfl rfl rfl ?_
                  refine q_skip rfl rfl rfl ?_
                  refine q_do rfl rfl rfl (d_pick_t rfl rfl rfl) ?_
                  refine q_do rfl rfl rfl (d_move rfl rfl) ?_
                  refine q_skip rfl rfl rfl ?_
                  refine q_skip rfl rfl rfl ?_
                  refine q_skip rfl rfl rfl ?_
                  refine q_skip rfl rfl rfl ?_
                  refine q_do rfl rfl rfl (d_pick_t rfl rfl rfl) ?_
                  refine q_end (fun w H' => ?_)
                  have H : Sep z (blk b7 [.int .i64 ((imgOf (F (1 + i))).num), .int .i64 ((imgOf (F (1 + i))).kind), .slice (some ⟨g3, 0, none⟩) 240 cap3] 85 :: poolA hq6 :: tblA pt :: blk b6 [.int .i64 sq, v] 48 :: grow 85 3 v i (imC es) :: blk b3 [.int .i64 (headE (F 0)), .int .i64 (headS (F 0)), .slice ao1 (hCnt (F 0)) cc1, u32 (headU (F 0))] 100 :: blk pl [.pointer (some ⟨pd, 0, none⟩), .pointer (some ⟨pt, 0, none⟩), .int .i64 s.gen, .int .i64 s.epoch, .int .i64 s.pages, .int .i64 s.start, .int .i64 s.len, .int .i64 s.head, .int .i64 s.seq, .int .i64 at_, .int .i64 sq, .int .i64 us, .bool br, .bool nu] 77 :: diskA pd D :: blk b2 [.int .i64 0, .slice none 0 0] 48 :: blk b1 [.int .i64 0, .slice none 0 0] 48 :: R) w := H'
                  clear H'
                  refine k_true rfl ?_
                  refine k_seq ?_
                  refine s_region ?_
                  refine s_do rfl rfl rfl (d_loadAgg rfl rfl (vs := [.int .i64 0, .slice none 0 0]) (by kernel_rfl) (here ((H.blk 8 rfl).part 0 2 _ rfl))) ?_
                  refine s_put rfl rfl (n_store 9 H rfl rfl rfl rfl (vs := [.int .i64 0, .slice none 0 0]) rfl (by simp [u8, u32, Value.oneCell']) (by kernel_rfl) (by simp) (out := [.int .i64 0, .slice none 0 0]) rfl) ?_
                  rintro w H'
                  have H : Sep z (blk b7 [.int .i64 ((imgOf (F (1 + i))).num), .int .i64 ((imgOf (F (1 + i))).kind), .slice (some ⟨g3, 0, none⟩) 240 cap3] 85 :: poolA hq6 :: tblA pt :: blk b6 [.int .i64 sq, v] 48 :: grow 85 3 v i (imC es) :: blk b3 [.int .i64 (headE (F 0)), .int .i64 (headS (F 0)), .slice ao1 (hCnt (F 0)) cc1, u32 (headU (F 0))] 100 :: blk pl [.pointer (some ⟨pd, 0, none⟩), .pointer (some ⟨pt, 0, none⟩), .int .i64 s.gen, .int .i64 s.epoch, .int .i64 s.pages, .int .i64 s.start, .int .i64 s.len, .int .i64 s.head, .int .i64 s.seq, .int .i64 at_, .int .i64 sq, .int .i64 us, .bool br, .bool nu] 77 :: diskA pd D :: blk b2 [.int .i64 0, .slice none 0 0] 48 :: blk b1 [.int .i64 0, .slice none 0 0] 48 :: R) w := H'
                  clear H'
                  refine s_do rfl rfl rfl (d_assign rfl rfl) ?_
                  refine s_end ?_
                  refine k_ret ?_
                  refine doneL rfl [.agg #[.int .i64 0, .slice none 0 0], .int .i64 0] ⟨⟨_, _, rfl, run_loadBlk (by kernel_rfl) (H.blk 9 rfl) (vs := [.int .i64 0, .slice none 0 0]) rfl⟩, ⟨rfl, trivial⟩⟩ (v := .tuple #[.agg #[.int .i64 0, .slice none 0 0], .int .i64 0]) rfl ?_
                  exact ⟨[blk pl [.pointer (some ⟨pd, 0, none⟩), .pointer (some ⟨pt, 0, none⟩), .int .i64 s.gen, .int .i64 s.epoch, .int .i64 s.pages, .int .i64 s.start, .int .i64 s.len, .int .i64 s.head, .int .i64 s.seq, .int .i64 at_, .int .i64 sq, .int .i64 us, .bool br, .bool nu] 77, tblA pt, diskA pd D], .inl ⟨fun ims => by rintro ⟨q1, q2, q3, q4, q5, q6, q7⟩; first | exact hh q1 | (exfalso; omega) | exact absurd (q6 i (by omega)).1 hi | (have q8 := q6 i (by omega); simp only [imgX, imgY] at q8; exfalso; omega) | exact absurd (show crcSum (catF F (hCnt (F 0))) = headU (F 0) from q7) ‹_›, rfl, rfl⟩, H.perm 10 [6, 2, 7] rfl rfl⟩
                · -- no: (imgX (F (1 + i)) : Int) ≠ (headE (F 0))
                  refine q_do rfl rfl rfl (d_move rfl rfl) ?_
                  refine q_do rfl rfl rfl (d_field rfl (k := 1) (r := 1) (by kernel_rfl) rfl rfl) ?_
                  refine q_do rfl rfl rfl (d_load rfl rfl (by kernel_rfl) (fun _ hx => hx.cel 5 rfl 1 rfl)) ?_
                  refine q_do rfl rfl rfl (d_neq rfl rfl rfl) ?_
                  refine q_do rfl rfl rfl (d_pick_f rfl rfl rfl) ?_
                  refine q_do rfl rfl rfl (d_move rfl rfl) ?_
                  refine q_part 154 rfl (fun h7 => ?_) (fun h7 => ?_)
                  · -- yes: (imgY (F (1 + i)) : Int) ≠ (headS (F 0))
                    refine q_skip rfl rfl rfl ?_
                    refine q_skip rfl rfl rfl ?_
                    refine q_skip rfl rfl rfl ?_
                    refine q_skip rfl rfl rfl ?_
                    refine q_skip rfl rfl rfl ?_
                    refine q_skip rfl rfl rfl ?_
                    refine q_skip rfl rfl rfl ?_
                    refine q_skip rfl rfl rfl ?_
                    refine q_do rfl rfl rfl (d_pick_t rfl rfl rfl) ?_
                    refine q_do rfl rfl rfl (d_move rfl rfl) ?_
                    refine q_skip rfl rfl rfl ?_
                    refine q_skip rfl rfl rfl ?_
                    refine q_skip rfl rfl rfl ?_
                    refine q_skip rfl rfl rfl ?_
                    refine q_do rfl rfl rfl (d_pick_t rfl rfl rfl) ?_
                    refine q_end (fun w H' => ?_)
                    have H : Sep z (blk b7 [.int .i64 ((imgOf (F (1 + i))).num), .int .i64 ((imgOf (F (1 + i))).kind), .slice (some ⟨g3, 0, none⟩) 240 cap3] 85 :: poolA hq6 :: tblA pt :: blk b6 [.int .i64 sq, v] 48 :: grow 85 3 v i (imC es) :: blk b3 [.int .i64 (headE (F 0)), .int .i64 (headS (F 0)), .slice ao1 (hCnt (F 0)) cc1, u32 (headU (F 0))] 100 :: blk pl [.pointer (some ⟨pd, 0, none⟩), .pointer (some ⟨pt, 0, none⟩), .int .i64 s.gen, .int .i64 s.epoch, .int .i64 s.pages, .int .i64 s.start, .int .i64 s.len, .int .i64 s.head, .int .i64 s.seq, .int .i64 at_, .int .i64 sq, .int .i64 us, .bool br, .bool nu] 77 :: diskA pd D :: blk b2 [.int .i64 0, .slice none 0 0] 48 :: blk b1 [.int .i64 0, .slice none 0 0] 48 :: R) w := H'
                    clear H'
                    refine k_true rfl ?_
                    refine k_seq ?_
                    refine s_region ?_
                    refine s_do rfl rfl rfl (d_loadAgg rfl rfl (vs := [.int .i64 0, .slice none 0 0]) (by kernel_rfl) (here ((H.blk 8 rfl).part 0 2 _ rfl))) ?_
                    refine s_put rfl rfl (n_store 9 H rfl rfl rfl rfl (vs := [.int .i64 0, .slice none 0 0]) rfl (by simp [u8, u32, Value.oneCell']) (by kernel_rfl) (by simp) (out := [.int .i64 0, .slice none 0 0]) rfl) ?_
                    rintro w H'
                    have H : Sep z (blk b7 [.int .i64 ((imgOf (F (1 + i))).num), .int .i64 ((imgOf (F (1 + i))).kind), .slice (some ⟨g3, 0, none⟩) 240 cap3] 85 :: poolA hq6 :: tblA pt :: blk b6 [.int .i64 sq, v] 48 :: grow 85 3 v i (imC es) :: blk b3 [.int .i64 (headE (F 0)), .int .i64 (headS (F 0)), .slice ao1 (hCnt (F 0)) cc1, u32 (headU (F 0))] 100 :: blk pl [.pointer (some ⟨pd, 0, none⟩), .pointer (some ⟨pt, 0, none⟩), .int .i64 s.gen, .int .i64 s.epoch, .int .i64 s.pages, .int .i64 s.start, .int .i64 s.len, .int .i64 s.head, .int .i64 s.seq, .int .i64 at_, .int .i64 sq, .int .i64 us, .bool br, .bool nu] 77 :: diskA pd D :: blk b2 [.int .i64 0, .slice none 0 0] 48 :: blk b1 [.int .i64 0, .slice none 0 0] 48 :: R) w := H'
                    clear H'
                    refine s_do rfl rfl rfl (d_assign rfl rfl) ?_
                    refine s_end ?_
                    refine k_ret ?_
                    refine doneL rfl [.agg #[.int .i64 0, .slice none 0 0], .int .i64 0] ⟨⟨_, _, rfl, run_loadBlk (by kernel_rfl) (H.blk 9 rfl) (vs := [.int .i64 0, .slice none 0 0]) rfl⟩, ⟨rfl, trivial⟩⟩ (v := .tuple #[.agg #[.int .i64 0, .slice none 0 0], .int .i64 0]) rfl ?_
                    exact ⟨[blk pl [.pointer (some ⟨pd, 0, none⟩), .pointer (some ⟨pt, 0, none⟩), .int .i64 s.gen, .int .i64 s.epoch, .int .i64 s.pages, .int .i64 s.start, .int .i64 s.len, .int .i64 s.head, .int .i64 s.seq, .int .i64 at_, .int .i64 sq, .int .i64 us, .bool br, .bool nu] 77, tblA pt, diskA pd D], .inl ⟨fun ims => by rintro ⟨q1, q2, q3, q4, q5, q6, q7⟩; first | exact hh q1 | (exfalso; omega) | exact absurd (q6 i (by omega)).1 hi | (have q8 := q6 i (by omega); simp only [imgX, imgY] at q8; exfalso; omega) | exact absurd (show crcSum (catF F (hCnt (F 0))) = headU (F 0) from q7) ‹_›, rfl, rfl⟩, H.perm 10 [6, 2, 7] rfl rfl⟩
                  · -- no: (imgY (F (1 + i)) : Int) ≠ (headS (F 0))
                    refine q_do rfl rfl rfl (d_field rfl (k := 0) (r := 0) (by kernel_rfl) rfl rfl) ?_
                    refine q_do rfl rfl rfl (d_load rfl rfl (by kernel_rfl) (fun _ hx => hx.cel 0 rfl 0 rfl)) ?_
                    refine q_do rfl rfl rfl (d_field rfl (k := 2) (r := 2) (by kernel_rfl) rfl rfl) ?_
                    refine q_do rfl rfl rfl (d_load rfl rfl (by kernel_rfl) (fun _ hx => hx.cel 5 rfl 2 rfl)) ?_
                    refine q_do rfl rfl rfl (d_move rfl rfl) ?_
                    refine q_do rfl rfl rfl (d_indexE rfl (z := 1) (j := i) (r := i) (by kernel_rfl) rfl rfl rfl (by omega) hat1 (by omega)) ?_
                    refine q_do rfl rfl rfl (d_loadE rfl rfl (by kernel_rfl) (fun _ hx => (hx.rd 1 rfl (fun h q => (hns4.le (fun k o e => shq6 k o (hsub5 k o e))).le q)).at (j := i) (u := .int .i64 (hNum (F 0) i)) (by simp [hN, show i < hCnt (F 0) from by omega]))) ?_
                    refine q_do rfl rfl rfl (d_neq rfl rfl rfl) ?_
                    refine q_do rfl rfl rfl (d_pick_f rfl rfl rfl) ?_
                    refine q_do rfl rfl rfl (d_move rfl rfl) ?_
                    refine q_part 164 rfl (fun h8 => ?_) (fun h8 => ?_)
                    · -- yes: ((imgOf (F (1 + i))).num : Int) ≠ (hNum (F 0) i)
                      refine q_skip rfl rfl rfl ?_
                      refine q_skip rfl rfl rfl ?_
                      refine q_skip rfl rfl rfl ?_
                      refine q_skip rfl rfl rfl ?_
                      refine q_do rfl rfl rfl (d_pick_t rfl rfl rfl) ?_
                      refine q_end (fun w H' => ?_)
                      have H : Sep z (blk b7 [.int .i64 ((imgOf (F (1 + i))).num), .int .i64 ((imgOf (F (1 + i))).kind), .slice (some ⟨g3, 0, none⟩) 240 cap3] 85 :: poolA hq6 :: tblA pt :: blk b6 [.int .i64 sq, v] 48 :: grow 85 3 v i (imC es) :: blk b3 [.int .i64 (headE (F 0)), .int .i64 (headS (F 0)), .slice ao1 (hCnt (F 0)) cc1, u32 (headU (F 0))] 100 :: blk pl [.pointer (some ⟨pd, 0, none⟩), .pointer (some ⟨pt, 0, none⟩), .int .i64 s.gen, .int .i64 s.epoch, .int .i64 s.pages, .int .i64 s.start, .int .i64 s.len, .int .i64 s.head, .int .i64 s.seq, .int .i64 at_, .int .i64 sq, .int .i64 us, .bool br, .bool nu] 77 :: diskA pd D :: blk b2 [.int .i64 0, .slice none 0 0] 48 :: blk b1 [.int .i64 0, .slice none 0 0] 48 :: R) w := H'
                      clear H'
                      refine k_true rfl ?_
                      refine k_seq ?_
                      refine s_region ?_
                      refine s_do rfl rfl rfl (d_loadAgg rfl rfl (vs := [.int .i64 0, .slice none 0 0]) (by kernel_rfl) (here ((H.blk 8 rfl).part 0 2 _ rfl))) ?_
                      refine s_put rfl rfl (n_store 9 H rfl rfl rfl rfl (vs := [.int .i64 0, .slice none 0 0]) rfl (by simp [u8, u32, Value.oneCell']) (by kernel_rfl) (by simp) (out := [.int .i64 0, .slice none 0 0]) rfl) ?_
                      rintro w H'
                      have H : Sep z (blk b7 [.int .i64 ((imgOf (F (1 + i))).num), .int .i64 ((imgOf (F (1 + i))).kind), .slice (some ⟨g3, 0, none⟩) 240 cap3] 85 :: poolA hq6 :: tblA pt :: blk b6 [.int .i64 sq, v] 48 :: grow 85 3 v i (imC es) :: blk b3 [.int .i64 (headE (F 0)), .int .i64 (headS (F 0)), .slice ao1 (hCnt (F 0)) cc1, u32 (headU (F 0))] 100 :: blk pl [.pointer (some ⟨pd, 0, none⟩), .pointer (some ⟨pt, 0, none⟩), .int .i64 s.gen, .int .i64 s.epoch, .int .i64 s.pages, .int .i64 s.start, .int .i64 s.len, .int .i64 s.head, .int .i64 s.seq, .int .i64 at_, .int .i64 sq, .int .i64 us, .bool br, .bool nu] 77 :: diskA pd D :: blk b2 [.int .i64 0, .slice none 0 0] 48 :: blk b1 [.int .i64 0, .slice none 0 0] 48 :: R) w := H'
                      clear H'
                      refine s_do rfl rfl rfl (d_assign rfl rfl) ?_
                      refine s_end ?_
                      refine k_ret ?_
                      refine doneL rfl [.agg #[.int .i64 0, .slice none 0 0], .int .i64 0] ⟨⟨_, _, rfl, run_loadBlk (by kernel_rfl) (H.blk 9 rfl) (vs := [.int .i64 0, .slice none 0 0]) rfl⟩, ⟨rfl, trivial⟩⟩ (v := .tuple #[.agg #[.int .i64 0, .slice none 0 0], .int .i64 0]) rfl ?_
                      exact ⟨[blk pl [.pointer (some ⟨pd, 0, none⟩), .pointer (some ⟨pt, 0, none⟩), .int .i64 s.gen, .int .i64 s.epoch, .int .i64 s.pages, .int .i64 s.start, .int .i64 s.len, .int .i64 s.head, .int .i64 s.seq, .int .i64 at_, .int .i64 sq, .int .i64 us, .bool br, .bool nu] 77, tblA pt, diskA pd D], .inl ⟨fun ims => by rintro ⟨q1, q2, q3, q4, q5, q6, q7⟩; first | exact hh q1 | (exfalso; omega) | exact absurd (q6 i (by omega)).1 hi | (have q8 := q6 i (by omega); simp only [imgX, imgY] at q8; exfalso; omega) | exact absurd (show crcSum (catF F (hCnt (F 0))) = headU (F 0) from q7) ‹_›, rfl, rfl⟩, H.perm 10 [6, 2, 7] rfl rfl⟩
                    · -- no: ((imgOf (F (1 + i))).num : Int) ≠ (hNum (F 0) i)
                      refine q_do rfl rfl rfl (d_move rfl rfl) ?_
                      refine q_do rfl rfl rfl (d_field rfl (k := 3) (r := 3) (by kernel_rfl) rfl rfl) ?_
                      refine q_do rfl rfl rfl (d_load rfl rfl (by kernel_rfl) (fun _ hx => hx.cel 5 rfl 3 rfl)) ?_
                      refine q_do rfl rfl rfl (d_neq32 (k := .u32) rfl (by kernel_rfl) rfl rfl) ?_
                      refine q_do rfl rfl rfl (d_pick_f rfl rfl rfl) ?_
                      refine q_end (fun w H' => ?_)
                      have H : Sep z (blk b7 [.int .i64 ((imgOf (F (1 + i))).num), .int .i64 ((imgOf (F (1 + i))).kind), .slice (some ⟨g3, 0, none⟩) 240 cap3] 85 :: poolA hq6 :: tblA pt :: blk b6 [.int .i64 sq, v] 48 :: grow 85 3 v i (imC es) :: blk b3 [.int .i64 (headE (F 0)), .int .i64 (headS (F 0)), .slice ao1 (hCnt (F 0)) cc1, u32 (headU (F 0))] 100 :: blk pl [.pointer (some ⟨pd, 0, none⟩), .pointer (some ⟨pt, 0, none⟩), .int .i64 s.gen, .int .i64 s.epoch, .int .i64 s.pages, .int .i64 s.start, .int .i64 s.len, .int .i64 s.head, .int .i64 s.seq, .int .i64 at_, .int .i64 sq, .int .i64 us, .bool br, .bool nu] 77 :: diskA pd D :: blk b2 [.int .i64 0, .slice none 0 0] 48 :: blk b1 [.int .i64 0, .slice none 0 0] 48 :: R) w := H'
                      clear H'
                      refine k_dec rfl (fun h9 => ?_) (fun h9 => ?_)
                      · -- yes: crcSum (catF F (hCnt (F 0))) ≠ headU (F 0)
                        refine k_seq ?_
                        refine s_region ?_
                        refine s_do rfl rfl rfl (d_loadAgg rfl rfl (vs := [.int .i64 0, .slice none 0 0]) (by kernel_rfl) (here ((H.blk 8 rfl).part 0 2 _ rfl))) ?_
                        refine s_put rfl rfl (n_store 9 H rfl rfl rfl rfl (vs := [.int .i64 0, .slice none 0 0]) rfl (by simp [u8, u32, Value.oneCell']) (by kernel_rfl) (by simp) (out := [.int .i64 0, .slice none 0 0]) rfl) ?_
                        rintro w H'
                        have H : Sep z (blk b7 [.int .i64 ((imgOf (F (1 + i))).num), .int .i64 ((imgOf (F (1 + i))).kind), .slice (some ⟨g3, 0, none⟩) 240 cap3] 85 :: poolA hq6 :: tblA pt :: blk b6 [.int .i64 sq, v] 48 :: grow 85 3 v i (imC es) :: blk b3 [.int .i64 (headE (F 0)), .int .i64 (headS (F 0)), .slice ao1 (hCnt (F 0)) cc1, u32 (headU (F 0))] 100 :: blk pl [.pointer (some ⟨pd, 0, none⟩), .pointer (some ⟨pt, 0, none⟩), .int .i64 s.gen, .int .i64 s.epoch, .int .i64 s.pages, .int .i64 s.start, .int .i64 s.len, .int .i64 s.head, .int .i64 s.seq, .int .i64 at_, .int .i64 sq, .int .i64 us, .bool br, .bool nu] 77 :: diskA pd D :: blk b2 [.int .i64 0, .slice none 0 0] 48 :: blk b1 [.int .i64 0, .slice none 0 0] 48 :: R) w := H'
                        clear H'
                        refine s_do rfl rfl rfl (d_assign rfl rfl) ?_
                        refine s_end ?_
                        refine k_ret ?_
                        refine doneL rfl [.agg #[.int .i64 0, .slice none 0 0], .int .i64 0] ⟨⟨_, _, rfl, run_loadBlk (by kernel_rfl) (H.blk 9 rfl) (vs := [.int .i64 0, .slice none 0 0]) rfl⟩, ⟨rfl, trivial⟩⟩ (v := .tuple #[.agg #[.int .i64 0, .slice none 0 0], .int .i64 0]) rfl ?_
                        exact ⟨[blk pl [.pointer (some ⟨pd, 0, none⟩), .pointer (some ⟨pt, 0, none⟩), .int .i64 s.gen, .int .i64 s.epoch, .int .i64 s.pages, .int .i64 s.start, .int .i64 s.len, .int .i64 s.head, .int .i64 s.seq, .int .i64 at_, .int .i64 sq, .int .i64 us, .bool br, .bool nu] 77, tblA pt, diskA pd D], .inl ⟨fun ims => by rintro ⟨q1, q2, q3, q4, q5, q6, q7⟩; first | exact hh q1 | (exfalso; omega) | exact absurd (q6 i (by omega)).1 hi | (have q8 := q6 i (by omega); simp only [imgX, imgY] at q8; exfalso; omega) | exact absurd (show crcSum (catF F (hCnt (F 0))) = headU (F 0) from q7) ‹_›, rfl, rfl⟩, H.perm 10 [6, 2, 7] rfl rfl⟩
                      · -- no: crcSum (catF F (hCnt (F 0))) ≠ headU (F 0)
                        refine k_skip ?_
                        refine s_region ?_
                        refine s_do rfl rfl rfl (d_field rfl (k := 1) (r := 1) (by kernel_rfl) rfl rfl) ?_
                        refine s_do rfl rfl rfl (d_load rfl rfl (by kernel_rfl) (here (H.cel 3 rfl 1 rfl))) ?_
                        refine s_do rfl rfl rfl (d_loadAgg rfl rfl (vs := [.int .i64 ((imgOf (F (1 + i))).num), .int .i64 ((imgOf (F (1 + i))).kind), .slice (some ⟨g3, 0, none⟩) 240 cap3]) (by kernel_rfl) (here ((H.blk 0 rfl).part 0 3 _ rfl))) ?_
                        refine s_go rfl rfl rfl (n_buildSlice H rfl (by kernel_rfl) (Elt.mk (P := Tryz.prog) (e := 85) (z := .agg #[.int .i64 0, .int .i64 0, .slice none 0 0]) (sz := 3) (by_ := 40) (by kernel_rfl) rfl (by omega) (by omega)) rfl (by decide) (by decide) (out := [.int .i64 ((imgOf (F (1 + i))).num), .int .i64 ((imgOf (F (1 + i))).kind), .slice (some ⟨g3, 0, none⟩) 240 cap3]) (by kernel_rfl)) ?_
                        rintro _ w ⟨b8, rfl, H'⟩
                        have H : Sep z (blk b8 [.int .i64 ((imgOf (F (1 + i))).num), .int .i64 ((imgOf (F (1 + i))).kind), .slice (some ⟨g3, 0, none⟩) 240 cap3] 85 :: blk b7 [.int .i64 ((imgOf (F (1 + i))).num), .int .i64 ((imgOf (F (1 + i))).kind), .slice (some ⟨g3, 0, none⟩) 240 cap3] 85 :: poolA hq6 :: tblA pt :: blk b6 [.int .i64 sq, v] 48 :: grow 85 3 v i (imC es) :: blk b3 [.int .i64 (headE (F 0)), .int .i64 (headS (F 0)), .slice ao1 (hCnt (F 0)) cc1, u32 (headU (F 0))] 100 :: blk pl [.pointer (some ⟨pd, 0, none⟩), .pointer (some ⟨pt, 0, none⟩), .int .i64 s.gen, .int .i64 s.epoch, .int .i64 s.pages, .int .i64 s.start, .int .i64 s.len, .int .i64 s.head, .int .i64 s.seq, .int .i64 at_, .int .i64 sq, .int .i64 us, .bool br, .bool nu] 77 :: diskA pd D :: blk b2 [.int .i64 0, .slice none 0 0] 48 :: blk b1 [.int .i64 0, .slice none 0 0] 48 :: R) w := H'
                        clear H'
                        refine s_go rfl rfl rfl (n_append 5 H rfl rfl (by kernel_rfl) (Elt.mk (P := Tryz.prog) (e := 85) (z := .agg #[.int .i64 0, .int .i64 0, .slice none 0 0]) (sz := 3) (by_ := 40) (by kernel_rfl) rfl (by omega) (by omega)) rfl rfl (H.rd 0 rfl (fun h q => q.rd (by omega) (by omega) (by simp) rfl)) (by simp [Value.oneCell']) (by omega)) ?_
                        rintro v9 w H'
                        have H' : Sep z (blk b8 [.int .i64 ((imgOf (F (1 + i))).num), .int .i64 ((imgOf (F (1 + i))).kind), .slice (some ⟨g3, 0, none⟩) 240 cap3] 85 :: blk b7 [.int .i64 ((imgOf (F (1 + i))).num), .int .i64 ((imgOf (F (1 + i))).kind), .slice (some ⟨g3, 0, none⟩) 240 cap3] 85 :: poolA hq6 :: tblA pt :: blk b6 [.int .i64 sq, v] 48 :: grow 85 3 v9 (i + 1) (imC es ++ [.int .i64 ((imgOf (F (1 + i))).num), .int .i64 ((imgOf (F (1 + i))).kind), .slice (some ⟨g3, 0, none⟩) 240 cap3]) :: blk b3 [.int .i64 (headE (F 0)), .int .i64 (headS (F 0)), .slice ao1 (hCnt (F 0)) cc1, u32 (headU (F 0))] 100 :: blk pl [.pointer (some ⟨pd, 0, none⟩), .pointer (some ⟨pt, 0, none⟩), .int .i64 s.gen, .int .i64 s.epoch, .int .i64 s.pages, .int .i64 s.start, .int .i64 s.len, .int .i64 s.head, .int .i64 s.seq, .int .i64 at_, .int .i64 sq, .int .i64 us, .bool br, .bool nu] 77 :: diskA pd D :: blk b2 [.int .i64 0, .slice none 0 0] 48 :: blk b1 [.int .i64 0, .slice none 0 0] 48 :: R) w := H'
                        have ev9 : (imC es ++ [.int .i64 ((imgOf (F (1 + i))).num), .int .i64 ((imgOf (F (1 + i))).kind), .slice (some ⟨g3, 0, none⟩) 240 cap3] : List Value) = imC (es ++ [(imgOf (F (1 + i)), .slice (some ⟨g3, 0, none⟩) 240 cap3)]) := imC_snoc es (imgOf (F (1 + i)), .slice (some ⟨g3, 0, none⟩) 240 cap3)
                        rw [ev9] at H'
                        have H : Sep z (blk b8 [.int .i64 ((imgOf (F (1 + i))).num), .int .i64 ((imgOf (F (1 + i))).kind), .slice (some ⟨g3, 0, none⟩) 240 cap3] 85 :: blk b7 [.int .i64 ((imgOf (F (1 + i))).num), .int .i64 ((imgOf (F (1 + i))).kind), .slice (some ⟨g3, 0, none⟩) 240 cap3] 85 :: poolA hq6 :: tblA pt :: blk b6 [.int .i64 sq, v] 48 :: grow 85 3 v9 (i + 1) (imC (es ++ [(imgOf (F (1 + i)), .slice (some ⟨g3, 0, none⟩) 240 cap3)])) :: blk b3 [.int .i64 (headE (F 0)), .int .i64 (headS (F 0)), .slice ao1 (hCnt (F 0)) cc1, u32 (headU (F 0))] 100 :: blk pl [.pointer (some ⟨pd, 0, none⟩), .pointer (some ⟨pt, 0, none⟩), .int .i64 s.gen, .int .i64 s.epoch, .int .i64 s.pages, .int .i64 s.start, .int .i64 s.len, .int .i64 s.head, .int .i64 s.seq, .int .i64 at_, .int .i64 sq, .int .i64 us, .bool br, .bool nu] 77 :: diskA pd D :: blk b2 [.int .i64 0, .slice none 0 0] 48 :: blk b1 [.int .i64 0, .slice none 0 0] 48 :: R) w := H'
                        clear H'
                        have sv9 := H.says 5 rfl (fun h q => q.slc)
                        refine s_do rfl rfl rfl (d_field rfl (k := 1) (r := 1) (by kernel_rfl) rfl rfl) ?_
                        refine s_put rfl rfl (n_store 4 H rfl rfl rfl rfl (vs := [v9]) sv9.cells (one_cons sv9.one one_nil) (by kernel_rfl) (by simp) (out := [.int .i64 sq, v9]) rfl) ?_
                        rintro w H'
                        have H : Sep z (blk b8 [.int .i64 ((imgOf (F (1 + i))).num), .int .i64 ((imgOf (F (1 + i))).kind), .slice (some ⟨g3, 0, none⟩) 240 cap3] 85 :: blk b7 [.int .i64 ((imgOf (F (1 + i))).num), .int .i64 ((imgOf (F (1 + i))).kind), .slice (some ⟨g3, 0, none⟩) 240 cap3] 85 :: poolA hq6 :: tblA pt :: blk b6 [.int .i64 sq, v9] 48 :: grow 85 3 v9 (i + 1) (imC (es ++ [(imgOf (F (1 + i)), .slice (some ⟨g3, 0, none⟩) 240 cap3)])) :: blk b3 [.int .i64 (headE (F 0)), .int .i64 (headS (F 0)), .slice ao1 (hCnt (F 0)) cc1, u32 (headU (F 0))] 100 :: blk pl [.pointer (some ⟨pd, 0, none⟩), .pointer (some ⟨pt, 0, none⟩), .int .i64 s.gen, .int .i64 s.epoch, .int .i64 s.pages, .int .i64 s.start, .int .i64 s.len, .int .i64 s.head, .int .i64 s.seq, .int .i64 at_, .int .i64 sq, .int .i64 us, .bool br, .bool nu] 77 :: diskA pd D :: blk b2 [.int .i64 0, .slice none 0 0] 48 :: blk b1 [.int .i64 0, .slice none 0 0] 48 :: R) w := H'
                        clear H'
                        refine s_end ?_
                        refine s_region ?_
                        refine s_do rfl rfl rfl (d_add64 rfl rfl rfl (r := (i : Int) + 1) (by omega) (by omega)) ?_
                        refine s_do rfl rfl rfl (d_move rfl rfl) ?_
                        refine s_end ?_
                        have H' := H.pick 11 [4, 5, 2, 6, 3, 7, 8, 9, 10] rfl
                        have H : Sep z (blk b6 [.int .i64 sq, v9] 48 :: grow 85 3 v9 (i + 1) (imC (es ++ [(imgOf (F (1 + i)), .slice (some ⟨g3, 0, none⟩) 240 cap3)])) :: poolA hq6 :: blk b3 [.int .i64 (headE (F 0)), .int .i64 (headS (F 0)), .slice ao1 (hCnt (F 0)) cc1, u32 (headU (F 0))] 100 :: tblA pt :: blk pl [.pointer (some ⟨pd, 0, none⟩), .pointer (some ⟨pt, 0, none⟩), .int .i64 s.gen, .int .i64 s.epoch, .int .i64 s.pages, .int .i64 s.start, .int .i64 s.len, .int .i64 s.head, .int .i64 s.seq, .int .i64 at_, .int .i64 sq, .int .i64 us, .bool br, .bool nu] 77 :: diskA pd D :: blk b2 [.int .i64 0, .slice none 0 0] 48 :: blk b1 [.int .i64 0, .slice none 0 0] 48 :: R) w := H'
                        clear H'
                        intro _ hF
                        refine ⟨⟨i + 1, v9, es ++ [(imgOf (F (1 + i)), .slice (some ⟨g3, 0, none⟩) 240 cap3)], hq6⟩, (hF.cons (hF.cons (hF.cons (hF.cons (hF.cons (hF.cons (hF.cons (hF.cons (hF.cons hF.nil 123 _ _ rfl rfl) 122 _ _ rfl rfl) 14 _ _ rfl rfl) 9 _ _ rfl rfl) 7 _ _ rfl rfl) 4 _ _ rfl rfl) 2 _ _ rfl rfl) 0 _ _ rfl rfl) 124 _ _ rfl (by go_num)), ⟨H, ?_⟩, ?_⟩
                        · refine ⟨by omega, by simp [hel], by simp [hes, List.range_succ], fun k o e => shq6 k o (hsub5 k o e), ?_, fun j hj => ?_⟩
                          · intro e he; rcases List.mem_append.1 he with q | q
                            · exact (hok e q).le shq6
                            · rw [List.mem_singleton.1 q]; simpa [imgOf, hF1] using hbody
                          · rcases Nat.lt_or_ge j i with q | q
                            · exact hall j q
                            · obtain rfl : j = i := by omega
                              exact ⟨hi, by unfold imgX; omega, by unfold imgY; omega, by omega, Decidable.of_not_not ‹_›⟩
                        · omega
              · -- a case
                have H : Sep z (tblA pt :: poolA hq5 :: blk b6 [.int .i64 sq, v] 48 :: grow 85 3 v i (imC es) :: blk b3 [.int .i64 (headE (F 0)), .int .i64 (headS (F 0)), .slice ao1 (hCnt (F 0)) cc1, u32 (headU (F 0))] 100 :: blk pl [.pointer (some ⟨pd, 0, none⟩), .pointer (some ⟨pt, 0, none⟩), .int .i64 s.gen, .int .i64 s.epoch, .int .i64 s.pages, .int .i64 s.start, .int .i64 s.len, .int .i64 s.head, .int .i64 s.seq, .int .i64 at_, .int .i64 sq, .int .i64 us, .bool br, .bool nu] 77 :: diskA pd D :: blk b2 [.int .i64 0, .slice none 0 0] 48 :: blk b1 [.int .i64 0, .slice none 0 0] 48 :: R) w := H'
                clear H'
                refine s_do rfl rfl rfl (d_move rfl rfl) ?_
                refine s_do rfl rfl rfl (d_extract rfl rfl rfl) ?_
                refine s_do rfl rfl rfl (d_extract rfl rfl rfl) ?_
                refine s_do rfl rfl rfl (d_extract rfl rfl rfl) ?_
                refine s_do rfl rfl rfl (d_extract rfl rfl rfl) ?_
                refine s_go rfl rfl rfl (n_alloc (P := Tryz.prog) H rfl (zs := [.int .i64 0, .int .i64 0, .slice none 0 0]) (by kernel_rfl)) ?_
                rintro _ w ⟨b10, rfl, H'⟩
                have H : Sep z (blk b10 [.int .i64 0, .int .i64 0, .slice none 0 0] 85 :: tblA pt :: poolA hq5 :: blk b6 [.int .i64 sq, v] 48 :: grow 85 3 v i (imC es) :: blk b3 [.int .i64 (headE (F 0)), .int .i64 (headS (F 0)), .slice ao1 (hCnt (F 0)) cc1, u32 (headU (F 0))] 100 :: blk pl [.pointer (some ⟨pd, 0, none⟩), .pointer (some ⟨pt, 0, none⟩), .int .i64 s.gen, .int .i64 s.epoch, .int .i64 s.pages, .int .i64 s.start, .int .i64 s.len, .int .i64 s.head, .int .i64 s.seq, .int .i64 at_, .int .i64 sq, .int .i64 us, .bool br, .bool nu] 77 :: diskA pd D :: blk b2 [.int .i64 0, .slice none 0 0] 48 :: blk b1 [.int .i64 0, .slice none 0 0] 48 :: R) w := H'
                clear H'
                refine s_do rfl rfl rfl (d_assign rfl rfl) ?_
                refine s_do rfl rfl rfl (d_assign rfl rfl) ?_
                refine s_put rfl rfl (n_store 0 H rfl rfl rfl rfl (vs := [.int .i64 0, .int .i64 0, .slice none 0 0]) rfl (by simp [u8, u32, Value.oneCell']) (by kernel_rfl) (by simp) (out := [.int .i64 0, .int .i64 0, .slice none 0 0]) rfl) ?_
                rintro w H'
                have H : Sep z (blk b10 [.int .i64 0, .int .i64 0, .slice none 0 0] 85 :: tblA pt :: poolA hq5 :: blk b6 [.int .i64 sq, v] 48 :: grow 85 3 v i (imC es) :: blk b3 [.int .i64 (headE (F 0)), .int .i64 (headS (F 0)), .slice ao1 (hCnt (F 0)) cc1, u32 (headU (F 0))] 100 :: blk pl [.pointer (some ⟨pd, 0, none⟩), .pointer (some ⟨pt, 0, none⟩), .int .i64 s.gen, .int .i64 s.epoch, .int .i64 s.pages, .int .i64 s.start, .int .i64 s.len, .int .i64 s.head, .int .i64 s.seq, .int .i64 at_, .int .i64 sq, .int .i64 us, .bool br, .bool nu] 77 :: diskA pd D :: blk b2 [.int .i64 0, .slice none 0 0] 48 :: blk b1 [.int .i64 0, .slice none 0 0] 48 :: R) w := H'
                clear H'
                refine s_do rfl rfl rfl (d_assign rfl rfl) ?_
                refine s_end ?_
                refine k_seq ?_
                refine k_seq ?_
                refine q_region (Sep z (blk b10 [.int .i64 0, .int .i64 0, .slice none 0 0] 85 :: tblA pt :: poolA hq5 :: blk b6 [.int .i64 sq, v] 48 :: grow 85 3 v i (imC es) :: blk b3 [.int .i64 (headE (F 0)), .int .i64 (headS (F 0)), .slice ao1 (hCnt (F 0)) cc1, u32 (headU (F 0))] 100 :: blk pl [.pointer (some ⟨pd, 0, none⟩), .pointer (some ⟨pt, 0, none⟩), .int .i64 s.gen, .int .i64 s.epoch, .int .i64 s.pages, .int .i64 s.start, .int .i64 s.len, .int .i64 s.head, .int .i64 s.seq, .int .i64 at_, .int .i64 sq, .int .i64 us, .bool br, .bool nu] 77 :: diskA pd D :: blk b2 [.int .i64 0, .slice none 0 0] 48 :: blk b1 [.int .i64 0, .slice none 0 0] 48 :: R)) (by kernel_rfl) (by kernel_rfl) H.drew ?_
                refine q_do rfl rfl rfl (d_move rfl rfl) ?_
                refine q_do rfl rfl rfl (d_not rfl rfl) ?_
                refine q_do rfl rfl rfl (d_move rfl rfl) ?_
                refine q_skip rfl rfl rfl ?_
                refine q_skip rfl rfl rfl ?_
                refine q_skip rfl rfl rfl ?_
                refine q_skip rfl rfl rfl ?_
                refine q_do rfl rfl rfl (d_pick_t rfl rfl rfl) ?_
                refine q_do rfl rfl rfl (d_move rfl rfl) ?_
                refine q_skip rfl rfl rfl ?_
                refine q_skip rfl rfl rfl ?_
                refine q_skip rfl rfl rfl ?_
                refine q_skip rfl rfl rfl ?_
                refine q_do rfl rfl rfl (d_pick_t rfl rfl rfl) ?_
                refine q_do rfl rfl rfl (d_move rfl rfl) ?_
                refine q_skip rfl rfl rfl ?_
                refine q_skip rfl rfl rfl ?_
                refine q_skip rfl rfl rfl ?_
                refine q_skip rfl rfl rfl ?_
                refine q_skip rfl rfl rfl ?_
                refine q_skip rfl rfl rfl ?_
                refine q_skip rfl rfl rfl ?_
                refine q_skip rfl rfl rfl ?_
                refine q_do rfl rfl rfl (d_pick_t rfl rfl rfl) ?_
                refine q_do rfl rfl rfl (d_move rfl rfl) ?_
                refine q_skip rfl rfl rfl ?_
                refine q_skip rfl rfl rfl ?_
                refine q_skip rfl rfl rfl ?_
                refine q_skip rfl rfl rfl ?_
                refine q_do rfl rfl rfl (d_pick_t rfl rfl rfl) ?_
                refine q_end (fun w H' => ?_)
                have H : Sep z (blk b10 [.int .i64 0, .int .i64 0, .slice none 0 0] 85 :: tblA pt :: poolA hq5 :: blk b6 [.int .i64 sq, v] 48 :: grow 85 3 v i (imC es) :: blk b3 [.int .i64 (headE (F 0)), .int .i64 (headS (F 0)), .slice ao1 (hCnt (F 0)) cc1, u32 (headU (F 0))] 100 :: blk pl [.pointer (some ⟨pd, 0, none⟩), .pointer (some ⟨pt, 0, none⟩), .int .i64 s.gen, .int .i64 s.epoch, .int .i64 s.pages, .int .i64 s.start, .int .i64 s.len, .int .i64 s.head, .int .i64 s.seq, .int .i64 at_, .int .i64 sq, .int .i64 us, .bool br, .bool nu] 77 :: diskA pd D :: blk b2 [.int .i64 0, .slice none 0 0] 48 :: blk b1 [.int .i64 0, .slice none 0 0] 48 :: R) w := H'
                clear H'
                refine k_true rfl ?_
                refine k_seq ?_
                refine s_region ?_
                refine s_do rfl rfl rfl (d_loadAgg rfl rfl (vs := [.int .i64 0, .slice none 0 0]) (by kernel_rfl) (here ((H.blk 8 rfl).part 0 2 _ rfl))) ?_
                refine s_put rfl rfl (n_store 9 H rfl rfl rfl rfl (vs := [.int .i64 0, .slice none 0 0]) rfl (by simp [u8, u32, Value.oneCell']) (by kernel_rfl) (by simp) (out := [.int .i64 0, .slice none 0 0]) rfl) ?_
                rintro w H'
                have H : Sep z (blk b10 [.int .i64 0, .int .i64 0, .slice none 0 0] 85 :: tblA pt :: poolA hq5 :: blk b6 [.int .i64 sq, v] 48 :: grow 85 3 v i (imC es) :: blk b3 [.int .i64 (headE (F 0)), .int .i64 (headS (F 0)), .slice ao1 (hCnt (F 0)) cc1, u32 (headU (F 0))] 100 :: blk pl [.pointer (some ⟨pd, 0, none⟩), .pointer (some ⟨pt, 0, none⟩), .int .i64 s.gen, .int .i64 s.epoch, .int .i64 s.pages, .int .i64 s.start, .int .i64 s.len, .int .i64 s.head, .int .i64 s.seq, .int .i64 at_, .int .i64 sq, .int .i64 us, .bool br, .bool nu] 77 :: diskA pd D :: blk b2 [.int .i64 0, .slice none 0 0] 48 :: blk b1 [.int .i64 0, .slice none 0 0] 48 :: R) w := H'
                clear H'
                refine s_do rfl rfl rfl (d_assign rfl rfl) ?_
                refine s_end ?_
                refine k_ret ?_
                refine doneL rfl [.agg #[.int .i64 0, .slice none 0 0], .int .i64 0] ⟨⟨_, _, rfl, run_loadBlk (by kernel_rfl) (H.blk 9 rfl) (vs := [.int .i64 0, .slice none 0 0]) rfl⟩, ⟨rfl, trivial⟩⟩ (v := .tuple #[.agg #[.int .i64 0, .slice none 0 0], .int .i64 0]) rfl ?_
                exact ⟨[blk pl [.pointer (some ⟨pd, 0, none⟩), .pointer (some ⟨pt, 0, none⟩), .int .i64 s.gen, .int .i64 s.epoch, .int .i64 s.pages, .int .i64 s.start, .int .i64 s.len, .int .i64 s.head, .int .i64 s.seq, .int .i64 at_, .int .i64 sq, .int .i64 us, .bool br, .bool nu] 77, tblA pt, diskA pd D], .inl ⟨fun ims => by rintro ⟨q1, q2, q3, q4, q5, q6, q7⟩; first | exact hh q1 | (exfalso; omega) | exact absurd (q6 i (by omega)).1 hi | (have q8 := q6 i (by omega); simp only [imgX, imgY] at q8; exfalso; omega) | exact absurd (show crcSum (catF F (hCnt (F 0))) = headU (F 0) from q7) ‹_›, rfl, rfl⟩, H.perm 10 [6, 1, 7] rfl rfl⟩
            · -- no: (i : Int) < ((hCnt (F 0) : Nat) : Int)
              obtain rfl : i = hCnt (F 0) := by omega
              refine k_exit ?_
              refine k_here ?_
              refine k_seq ?_
              refine s_region ?_
              refine s_do rfl rfl rfl (d_loadAgg rfl rfl (vs := [.int .i64 sq, v]) (by kernel_rfl) (here ((H.blk 0 rfl).part 0 2 _ rfl))) ?_
              refine s_put rfl rfl (n_store 8 H rfl rfl rfl rfl (vs := [.int .i64 sq, v]) rfl (one_cons rfl (one_cons sv.one one_nil)) (by kernel_rfl) (by simp) (out := [.int .i64 sq, v]) rfl) ?_
              rintro w H'
              have H : Sep z (blk b6 [.int .i64 sq, v] 48 :: grow 85 3 v (hCnt (F 0)) (imC es) :: poolA hq5 :: blk b3 [.int .i64 (headE (F 0)), .int .i64 (headS (F 0)), .slice ao1 (hCnt (F 0)) cc1, u32 (headU (F 0))] 100 :: tblA pt :: blk pl [.pointer (some ⟨pd, 0, none⟩), .pointer (some ⟨pt, 0, none⟩), .int .i64 s.gen, .int .i64 s.epoch, .int .i64 s.pages, .int .i64 s.start, .int .i64 s.len, .int .i64 s.head, .int .i64 s.seq, .int .i64 at_, .int .i64 sq, .int .i64 us, .bool br, .bool nu] 77 :: diskA pd D :: blk b2 [.int .i64 0, .slice none 0 0] 48 :: blk b1 [.int .i64 sq, v] 48 :: R) w := H'
              clear H'
              refine s_do rfl rfl rfl (d_assign rfl rfl) ?_
              refine s_end ?_
              refine k_ret ?_
              refine doneL rfl [.agg #[.int .i64 sq, v], .int .i64 0] ⟨⟨_, _, rfl, run_loadBlk (by kernel_rfl) (H.blk 8 rfl) (vs := [.int .i64 sq, v]) rfl⟩, ⟨rfl, trivial⟩⟩ (v := .tuple #[.agg #[.int .i64 sq, v], .int .i64 0]) rfl ?_
              have H' := H.pick 9 [2, 1, 0, 3, 4, 5, 6, 7, 8] rfl
              have H : Sep z (poolA hq5 :: grow 85 3 v (hCnt (F 0)) (imC es) :: blk b6 [.int .i64 sq, v] 48 :: blk b3 [.int .i64 (headE (F 0)), .int .i64 (headS (F 0)), .slice ao1 (hCnt (F 0)) cc1, u32 (headU (F 0))] 100 :: tblA pt :: blk pl [.pointer (some ⟨pd, 0, none⟩), .pointer (some ⟨pt, 0, none⟩), .int .i64 s.gen, .int .i64 s.epoch, .int .i64 s.pages, .int .i64 s.start, .int .i64 s.len, .int .i64 s.head, .int .i64 s.seq, .int .i64 at_, .int .i64 sq, .int .i64 us, .bool br, .bool nu] 77 :: diskA pd D :: blk b2 [.int .i64 0, .slice none 0 0] 48 :: blk b1 [.int .i64 sq, v] 48 :: R) w := H'
              clear H'
              obtain ⟨hq7, ⟨shq7, him7⟩, H'⟩ := pool_rd H (fun h q => q.rd)
              clear H
              have H : Sep z (poolA hq7 :: blk b6 [.int .i64 sq, v] 48 :: blk b3 [.int .i64 (headE (F 0)), .int .i64 (headS (F 0)), .slice ao1 (hCnt (F 0)) cc1, u32 (headU (F 0))] 100 :: tblA pt :: blk pl [.pointer (some ⟨pd, 0, none⟩), .pointer (some ⟨pt, 0, none⟩), .int .i64 s.gen, .int .i64 s.epoch, .int .i64 s.pages, .int .i64 s.start, .int .i64 s.len, .int .i64 s.head, .int .i64 s.seq, .int .i64 at_, .int .i64 sq, .int .i64 us, .bool br, .bool nu] 77 :: diskA pd D :: blk b2 [.int .i64 0, .slice none 0 0] 48 :: blk b1 [.int .i64 sq, v] 48 :: R) w := H'
              clear H'
              exact ⟨[poolA hq7, blk pl [.pointer (some ⟨pd, 0, none⟩), .pointer (some ⟨pt, 0, none⟩), .int .i64 s.gen, .int .i64 s.epoch, .int .i64 s.pages, .int .i64 s.start, .int .i64 s.len, .int .i64 s.head, .int .i64 s.seq, .int .i64 at_, .int .i64 sq, .int .i64 us, .bool br, .bool nu] 77, tblA pt, diskA pd D], .inr ⟨_, v, hq7, ⟨hh, by omega, by omega, by omega, rfl, fun j hj => ⟨(hall j hj).1, (hall j hj).2.1, (hall j hj).2.2.1, (hall j hj).2.2.2.1⟩, (hall 0 (by omega)).2.2.2.2⟩, rfl, ⟨es, hes, by simpa using him7, hok.le shq7⟩, rfl⟩, H.perm 8 [0, 4, 3, 5] rfl rfl⟩
  · -- a case
    have H : Sep z (tblA pt :: poolA hq1 :: blk pl [.pointer (some ⟨pd, 0, none⟩), .pointer (some ⟨pt, 0, none⟩), .int .i64 s.gen, .int .i64 s.epoch, .int .i64 s.pages, .int .i64 s.start, .int .i64 s.len, .int .i64 s.head, .int .i64 s.seq, .int .i64 at_, .int .i64 sq, .int .i64 us, .bool br, .bool nu] 77 :: diskA pd D :: blk b2 [.int .i64 0, .slice none 0 0] 48 :: blk b1 [.int .i64 0, .slice none 0 0] 48 :: R) w := H'
    clear H'
    refine s_do rfl rfl rfl (d_move rfl rfl) ?_
    refine s_do rfl rfl rfl (d_extract rfl rfl rfl) ?_
    refine s_do rfl rfl rfl (d_extract rfl rfl rfl) ?_
    refine s_go rfl rfl rfl (n_alloc (P := Tryz.prog) H rfl (zs := [.int .i64 0, .int .i64 0, .slice none 0 0, u32 0]) (by kernel_rfl)) ?_
    rintro _ w ⟨b11, rfl, H'⟩
    have H : Sep z (blk b11 [.int .i64 0, .int .i64 0, .slice none 0 0, u32 0] 100 :: tblA pt :: poolA hq1 :: blk pl [.pointer (some ⟨pd, 0, none⟩), .pointer (some ⟨pt, 0, none⟩), .int .i64 s.gen, .int .i64 s.epoch, .int .i64 s.pages, .int .i64 s.start, .int .i64 s.len, .int .i64 s.head, .int .i64 s.seq, .int .i64 at_, .int .i64 sq, .int .i64 us, .bool br, .bool nu] 77 :: diskA pd D :: blk b2 [.int .i64 0, .slice none 0 0] 48 :: blk b1 [.int .i64 0, .slice none 0 0] 48 :: R) w := H'
    clear H'
    refine s_put rfl rfl (n_store 0 H rfl rfl rfl rfl (vs := [.int .i64 0, .int .i64 0, .slice none 0 0, u32 0]) rfl (by simp [u8, u32, Value.oneCell']) (by kernel_rfl) (by simp) (out := [.int .i64 0, .int .i64 0, .slice none 0 0, u32 0]) rfl) ?_
    rintro w H'
    have H : Sep z (blk b11 [.int .i64 0, .int .i64 0, .slice none 0 0, u32 0] 100 :: tblA pt :: poolA hq1 :: blk pl [.pointer (some ⟨pd, 0, none⟩), .pointer (some ⟨pt, 0, none⟩), .int .i64 s.gen, .int .i64 s.epoch, .int .i64 s.pages, .int .i64 s.start, .int .i64 s.len, .int .i64 s.head, .int .i64 s.seq, .int .i64 at_, .int .i64 sq, .int .i64 us, .bool br, .bool nu] 77 :: diskA pd D :: blk b2 [.int .i64 0, .slice none 0 0] 48 :: blk b1 [.int .i64 0, .slice none 0 0] 48 :: R) w := H'
    clear H'
    refine s_do rfl rfl rfl (d_assign rfl rfl) ?_
    refine s_end ?_
    refine k_seq ?_
    refine k_seq ?_
    refine q_region (Sep z (blk b11 [.int .i64 0, .int .i64 0, .slice none 0 0, u32 0] 100 :: tblA pt :: poolA hq1 :: blk pl [.pointer (some ⟨pd, 0, none⟩), .pointer (some ⟨pt, 0, none⟩), .int .i64 s.gen, .int .i64 s.epoch, .int .i64 s.pages, .int .i64 s.start, .int .i64 s.len, .int .i64 s.head, .int .i64 s.seq, .int .i64 at_, .int .i64 sq, .int .i64 us, .bool br, .bool nu] 77 :: diskA pd D :: blk b2 [.int .i64 0, .slice none 0 0] 48 :: blk b1 [.int .i64 0, .slice none 0 0] 48 :: R)) (by kernel_rfl) (by kernel_rfl) H.drew ?_
    refine q_do rfl rfl rfl (d_move rfl rfl) ?_
    refine q_do rfl rfl rfl (d_not rfl rfl) ?_
    refine q_do rfl rfl rfl (d_move rfl rfl) ?_
    refine q_skip rfl rfl rfl ?_
    refine q_skip rfl rfl rfl ?_
    refine q_skip rfl rfl rfl ?_
    refine q_skip rfl rfl rfl ?_
    refine q_skip rfl rfl rfl ?_
    refine q_skip rfl rfl rfl ?_
    refine q_skip rfl rfl rfl ?_
    refine q_skip rfl rfl rfl ?_
    refine q_do rfl rfl rfl (d_pick_t rfl rfl rfl) ?_
    refine q_do rfl rfl rfl (d_move rfl rfl) ?_
    refine q_skip rfl rfl rfl ?_
    refine q_skip rfl rfl rfl ?_
    refine q_skip rfl rfl rfl ?_
    refine q_skip rfl rfl rfl ?_
    refine q_skip rfl rfl rfl ?_
    refine q_skip rfl rfl rfl ?_
    refine q_skip rfl rfl rfl ?_
    refine q_do rfl rfl rfl (d_pick_t rfl rfl rfl) ?_
    refine q_do rfl rfl rfl (d_move rfl rfl) ?_
    refine q_skip rfl rfl rfl ?_
    refine q_skip rfl rfl rfl ?_
    refine q_skip rfl rfl rfl ?_
    refine q_skip rfl rfl rfl ?_
    refine q_skip rfl rfl rfl ?_
    refine q_skip rfl rfl rfl ?_
    refine q_skip rfl rfl rfl ?_
    refine q_skip rfl rfl rfl ?_
    refine q_skip rfl rfl rfl ?_
    refine q_skip rfl rfl rfl ?_
    refine q_skip rfl rfl rfl ?_
    refine q_skip rfl rfl rfl ?_
    refine q_skip rfl rfl rfl ?_
    refine q_skip rfl rfl rfl ?_
    refine q_skip rfl rfl rfl ?_
    refine q_do rfl rfl rfl (d_pick_t rfl rfl rfl) ?_
    refine q_end (fun w H' => ?_)
    have H : Sep z (blk b11 [.int .i64 0, .int .i64 0, .slice none 0 0, u32 0] 100 :: tblA pt :: poolA hq1 :: blk pl [.pointer (some ⟨pd, 0, none⟩), .pointer (some ⟨pt, 0, none⟩), .int .i64 s.gen, .int .i64 s.epoch, .int .i64 s.pages, .int .i64 s.start, .int .i64 s.len, .int .i64 s.head, .int .i64 s.seq, .int .i64 at_, .int .i64 sq, .int .i64 us, .bool br, .bool nu] 77 :: diskA pd D :: blk b2 [.int .i64 0, .slice none 0 0] 48 :: blk b1 [.int .i64 0, .slice none 0 0] 48 :: R) w := H'
    clear H'
    refine k_true rfl ?_
    refine k_seq ?_
    refine s_region ?_
    refine s_do rfl rfl rfl (d_loadAgg rfl rfl (vs := [.int .i64 0, .slice none 0 0]) (by kernel_rfl) (here ((H.blk 5 rfl).part 0 2 _ rfl))) ?_
    refine s_put rfl rfl (n_store 6 H rfl rfl rfl rfl (vs := [.int .i64 0, .slice none 0 0]) rfl (by simp [u8, u32, Value.oneCell']) (by kernel_rfl) (by simp) (out := [.int .i64 0, .slice none 0 0]) rfl) ?_
    rintro w H'
    have H : Sep z (blk b11 [.int .i64 0, .int .i64 0, .slice none 0 0, u32 0] 100 :: tblA pt :: poolA hq1 :: blk pl [.pointer (some ⟨pd, 0, none⟩), .pointer (some ⟨pt, 0, none⟩), .int .i64 s.gen, .int .i64 s.epoch, .int .i64 s.pages, .int .i64 s.start, .int .i64 s.len, .int .i64 s.head, .int .i64 s.seq, .int .i64 at_, .int .i64 sq, .int .i64 us, .bool br, .bool nu] 77 :: diskA pd D :: blk b2 [.int .i64 0, .slice none 0 0] 48 :: blk b1 [.int .i64 0, .slice none 0 0] 48 :: R) w := H'
    clear H'
    refine s_do rfl rfl rfl (d_assign rfl rfl) ?_
    refine s_end ?_
    refine k_ret ?_
    refine doneL rfl [.agg #[.int .i64 0, .slice none 0 0], .int .i64 0] ⟨⟨_, _, rfl, run_loadBlk (by kernel_rfl) (H.blk 6 rfl) (vs := [.int .i64 0, .slice none 0 0]) rfl⟩, ⟨rfl, trivial⟩⟩ (v := .tuple #[.agg #[.int .i64 0, .slice none 0 0], .int .i64 0]) rfl ?_
    exact ⟨[blk pl [.pointer (some ⟨pd, 0, none⟩), .pointer (some ⟨pt, 0, none⟩), .int .i64 s.gen, .int .i64 s.epoch, .int .i64 s.pages, .int .i64 s.start, .int .i64 s.len, .int .i64 s.head, .int .i64 s.seq, .int .i64 at_, .int .i64 sq, .int .i64 us, .bool br, .bool nu] 77, tblA pt, diskA pd D], .inl ⟨fun ims => by rintro ⟨q1, q2, q3, q4, q5, q6, q7⟩; first | exact hh q1 | (exfalso; omega) | exact absurd (q6 i (by omega)).1 hi | (have q8 := q6 i (by omega); simp only [imgX, imgY] at q8; exfalso; omega) | exact absurd (show crcSum (catF F (hCnt (F 0))) = headU (F 0) from q7) ‹_›, rfl, rfl⟩, H.perm 7 [3, 1, 4] rfl rfl⟩
end Go.Proofs.YtanejicgmgpjcaaGreatDoor
