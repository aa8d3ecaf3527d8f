/-
  Walks: writing a disk. No condition.
-/
import Derived.Test.YtanejicgmgpjcaaGreatDoorLogD
import Derived.Test.YtanejicgmgpjcaaGreatDoorLogN
set_option maxRecDepth 100000
namespace Go.Proofs.YtanejicgmgpjcaaGreatDoor
open Go.RowKit
set_option maxHeartbeats 1000000 in
theorem write_c (pd b off c : Nat) (D : Dsk) (x : Int) (fua : Bool) (ps : List (List UInt8)) (A : Asn) (hps : ∀ p ∈ ps, p.length = 256) (hm : 1 ≤ ps.length ∧ ps.length ≤ 4096) (hver : ∀ i, (D.ver i).length ≤ 1099511627776) (hA : ∀ h, A h → rdH 1 (.slice (some ⟨b, off, none⟩) (ps.length * 256) c) (ps.length * 256) (ps.flatten.map u8) h) : Cn Tryz.prog 24 [.pointer (some ⟨pd, 0, none⟩), .int .i64 x, .slice (some ⟨b, off, none⟩) (ps.length * 256) c, .bool fua] [diskA pd D, A] (fun v Γ => (¬ (0 ≤ x ∧ x + ps.length ≤ (D.n : Int)) ∧ v = .int .i64 2 ∧ Γ = [diskA pd D, A]) ∨ ((0 ≤ x ∧ x + ps.length ≤ (D.n : Int)) ∧ (D.f2 = 1 ∨ (D.cut = true ∧ D.left = 0)) ∧ v = .int .i64 11 ∧ Γ = [diskA pd { D with f2 := tick D.f2 }, A]) ∨ ((0 ≤ x ∧ x + ps.length ≤ (D.n : Int)) ∧ (¬ D.f2 = 1 ∧ ¬ (D.cut = true ∧ D.left = 0)) ∧ v = .int .i64 0 ∧ Γ = [diskA pd { Dsk.ws { D with f2 := tick D.f2 } fua x.toNat ps with left := max 0 (D.left - 1) }, A])) := by
  intro z R w H'
  have H : Sep z (diskA pd D :: A :: R) w := H'
  clear H'
  obtain ⟨bd, m, f0, bs, es, clk, hq, hD, hIn, H'⟩ := H.disk
  clear H
  have hn1 := hD.n1; have hn2 := hD.n2; have hf1 := hD.f1; have hf2 := hD.f2; have hf3 := hD.f3; have hlf := hD.left; have hbl := hIn.len
  have H : Sep z (blk pd [.slice (some ⟨bd, 0, none⟩) (D.n * 256) (D.n * 256), .map (some m), .int .i64 f0, .int .i64 D.f1, .int .i64 D.f2, .int .i64 D.f3, .bool D.cut, .int .i64 D.left] 74 :: blk bd (bs.map u8) 5 :: mapB m (es.map Ent.ie) clk :: poolA hq :: seps (es.map Ent.row) :: A :: R) w := H'
  clear H'
  refine enterM Tryz.func24 rfl 73 Tryz.ntmps24 rfl ?_
  refine k_seq ?_
  refine s_region ?_
  refine s_go rfl rfl rfl (n_box H rfl rfl (cs := [.pointer (some ⟨pd, 0, none⟩)]) rfl) ?_
  rintro _ w ⟨b1, rfl, H'⟩
  have H : Sep z (blk b1 [.pointer (some ⟨pd, 0, none⟩)] 25 :: blk pd [.slice (some ⟨bd, 0, none⟩) (D.n * 256) (D.n * 256), .map (some m), .int .i64 f0, .int .i64 D.f1, .int .i64 D.f2, .int .i64 D.f3, .bool D.cut, .int .i64 D.left] 74 :: blk bd (bs.map u8) 5 :: mapB m (es.map Ent.ie) clk :: poolA hq :: seps (es.map Ent.row) :: A :: R) w := H'
  clear H'
  refine s_go rfl rfl rfl (n_box H rfl rfl (cs := [.int .i64 x]) rfl) ?_
  rintro _ w ⟨b2, rfl, H'⟩
  have H : Sep z (blk b2 [.int .i64 x] 3 :: blk b1 [.pointer (some ⟨pd, 0, none⟩)] 25 :: blk pd [.slice (some ⟨bd, 0, none⟩) (D.n * 256) (D.n * 256), .map (some m), .int .i64 f0, .int .i64 D.f1, .int .i64 D.f2, .int .i64 D.f3, .bool D.cut, .int .i64 D.left] 74 :: blk bd (bs.map u8) 5 :: mapB m (es.map Ent.ie) clk :: poolA hq :: seps (es.map Ent.row) :: A :: R) w := H'
  clear H'
  refine s_go rfl rfl rfl (n_box H rfl rfl (cs := [.bool fua]) rfl) ?_
  rintro _ w ⟨b3, rfl, H'⟩
  have H : Sep z (blk b3 [.bool fua] 4 :: blk b2 [.int .i64 x] 3 :: blk b1 [.pointer (some ⟨pd, 0, none⟩)] 25 :: blk pd [.slice (some ⟨bd, 0, none⟩) (D.n * 256) (D.n * 256), .map (some m), .int .i64 f0, .int .i64 D.f1, .int .i64 D.f2, .int .i64 D.f3, .bool D.cut, .int .i64 D.left] 74 :: blk bd (bs.map u8) 5 :: mapB m (es.map Ent.ie) clk :: poolA hq :: seps (es.map Ent.row) :: A :: R) w := H'
  clear H'
  refine s_do rfl rfl rfl (d_assign rfl rfl) ?_
  refine s_end ?_
  refine k_seq ?_
  refine k_block ?_
  refine k_seq ?_
  refine s_region ?_
  refine s_do rfl rfl rfl (d_move rfl rfl) ?_
  refine s_do rfl rfl rfl (d_len rfl (z := 1) (by kernel_rfl) rfl) ?_
  refine s_do rfl rfl rfl (d_eql rfl rfl rfl) ?_
  refine s_do rfl rfl rfl (d_move rfl rfl) ?_
  refine s_part 14 rfl (fun h1 => ?_) (fun h1 => ?_)
  · omega
  · -- no: ((ps.length * 256 : Nat) : Int) = 0
    refine s_do rfl rfl rfl (d_move rfl rfl) ?_
    refine s_do rfl rfl rfl (d_len rfl (z := 1) (by kernel_rfl) rfl) ?_
    refine s_do rfl rfl rfl (d_rem64 rfl rfl rfl (r := ((ps.length * 256 : Nat) : Int) % 256) (by omega) (by omega) (by omega)) ?_
    refine s_do rfl rfl rfl (d_neq rfl rfl rfl) ?_
    refine s_do rfl rfl rfl (d_pick_f rfl rfl rfl) ?_
    refine s_do rfl rfl rfl (d_assign rfl rfl) ?_
    refine s_end ?_
    refine k_dec rfl (fun h2 => ?_) (fun h2 => ?_)
    · omega
    · -- no: (((ps.length * 256 : Nat) : Int) % 256) ≠ 0
      refine k_seq ?_
      refine s_region ?_
      refine s_do rfl rfl rfl (d_load rfl rfl (by kernel_rfl) (here (H.cel 2 rfl 0 rfl))) ?_
      refine s_do rfl rfl rfl (d_load rfl rfl (by kernel_rfl) (here (H.cel 1 rfl 0 rfl))) ?_
      refine s_do rfl rfl rfl (d_move rfl rfl) ?_
      refine s_do rfl rfl rfl (d_len rfl (z := 1) (by kernel_rfl) rfl) ?_
      refine s_do rfl rfl rfl (d_quo64 rfl rfl rfl (r := (ps.length : Int)) (by omega) (by omega) (by omega) (by omega)) ?_
      refine s_callC rfl rfl rfl rfl rfl (fun w => Tryz.call37 _ w) (there_c _ _ _ _ _ _ _ _ _ _ _ _ (by omega)) H 4 [3, 0, 1, 2] rfl rfl ?_
      rintro _ w _ ⟨rfl, rfl⟩ H'
      have H : Sep z (blk pd [.slice (some ⟨bd, 0, none⟩) (D.n * 256) (D.n * 256), .map (some m), .int .i64 f0, .int .i64 D.f1, .int .i64 D.f2, .int .i64 D.f3, .bool D.cut, .int .i64 D.left] 74 :: blk b3 [.bool fua] 4 :: blk b2 [.int .i64 x] 3 :: blk b1 [.pointer (some ⟨pd, 0, none⟩)] 25 :: blk bd (bs.map u8) 5 :: mapB m (es.map Ent.ie) clk :: poolA hq :: seps (es.map Ent.row) :: A :: R) w := H'
      clear H'
      refine s_do rfl rfl rfl (d_not_dec rfl rfl) ?_
      refine s_do rfl rfl rfl (d_assign rfl rfl) ?_
      refine s_end ?_
      refine k_dec rfl (fun h3 => ?_) (fun h3 => ?_)
      · -- yes: ¬ (0 ≤ x ∧ (0 : Int) < (ps.length : Int) ∧ x < ((D.n * 256 : Nat) : Int) / 256 ∧ (ps.length : Int) ≤ ((D.n * 256 : Nat) : Int) / 256 - x)
        refine k_seq ?_
        refine s_region ?_
        refine s_do rfl rfl rfl (d_assign rfl rfl) ?_
        refine s_end ?_
        refine k_ret ?_
        refine doneM0 rfl [.int .i64 2] ⟨rfl, trivial⟩ (v := .int .i64 2) rfl ?_
        have H' := H.pick 9 [0, 4, 5, 6, 7, 1, 2, 3, 8] rfl
        have H : Sep z (blk pd [.slice (some ⟨bd, 0, none⟩) (D.n * 256) (D.n * 256), .map (some m), .int .i64 f0, .int .i64 D.f1, .int .i64 D.f2, .int .i64 D.f3, .bool D.cut, .int .i64 D.left] 74 :: blk bd (bs.map u8) 5 :: mapB m (es.map Ent.ie) clk :: poolA hq :: seps (es.map Ent.row) :: blk b3 [.bool fua] 4 :: blk b2 [.int .i64 x] 3 :: blk b1 [.pointer (some ⟨pd, 0, none⟩)] 25 :: A :: R) w := H'
        clear H'
        have H' := Sep.toDisk (D := D) (pd := pd) (bd := bd) (m := m) (f0 := f0) (bs := bs) (es := es) (clk := clk) (hq := hq) (Γ := blk b3 [.bool fua] 4 :: blk b2 [.int .i64 x] 3 :: blk b1 [.pointer (some ⟨pd, 0, none⟩)] 25 :: A :: R) H hD hIn
        have H : Sep z (diskA pd D :: blk b3 [.bool fua] 4 :: blk b2 [.int .i64 x] 3 :: blk b1 [.pointer (some ⟨pd, 0, none⟩)] 25 :: A :: R) w := H'
        clear H'
        exact ⟨[diskA pd D, A], .inl ⟨by omega, rfl, rfl⟩, H.perm 5 [0, 4] rfl rfl⟩
      · -- no: ¬ (0 ≤ x ∧ (0 : Int) < (ps.length : Int) ∧ x < ((D.n * 256 : Nat) : Int) / 256 ∧ (ps.length : Int) ≤ ((D.n * 256 : Nat) : Int) / 256 - x)
        obtain ⟨k, rfl⟩ : ∃ k : Nat, x = (k : Int) := ⟨x.toNat, by omega⟩
        have hk : k + ps.length ≤ D.n := by omega
        refine k_seq ?_
        refine k_seq ?_
        refine s_region ?_
        refine s_do rfl rfl rfl (d_load rfl rfl (by kernel_rfl) (here (H.cel 3 rfl 0 rfl))) ?_
        refine s_callC rfl rfl rfl rfl rfl (fun w => Tryz.call28 _ w) (fails2_c _ _ _ _ _ _ _ _ _ _ (by omega)) H 1 [0] rfl rfl ?_
        rintro _ w _ ⟨rfl, rfl⟩ H'
        have H : Sep z (blk pd [.slice (some ⟨bd, 0, none⟩) (D.n * 256) (D.n * 256), .map (some m), .int .i64 f0, .int .i64 D.f1, .int .i64 (if D.f2 = 0 then 0 else D.f2 - 1), .int .i64 D.f3, .bool D.cut, .int .i64 D.left] 74 :: blk b3 [.bool fua] 4 :: blk b2 [.int .i64 (k : Int)] 3 :: blk b1 [.pointer (some ⟨pd, 0, none⟩)] 25 :: blk bd (bs.map u8) 5 :: mapB m (es.map Ent.ie) clk :: poolA hq :: seps (es.map Ent.row) :: A :: R) w := H'
        clear H'
        refine s_do rfl rfl rfl (d_assign rfl rfl) ?_
        refine s_end ?_
        refine k_dec rfl (fun h4 => ?_) (fun h4 => ?_)
        · -- yes: D.f2 = 1
          refine k_skip ?_
          refine k_dec rfl (fun h5 => ?_) (fun h5 => ?_)
          · -- yes: D.f2 = 1
            refine k_seq ?_
            refine s_region ?_
            refine s_do rfl rfl rfl (d_assign rfl rfl) ?_
            refine s_end ?_
            refine k_ret ?_
            refine doneM0 rfl [.int .i64 11] ⟨rfl, trivial⟩ (v := .int .i64 11) rfl ?_
            have H' := H.pick 9 [0, 4, 5, 6, 7, 1, 2, 3, 8] rfl
            have H : Sep z (blk pd [.slice (some ⟨bd, 0, none⟩) (D.n * 256) (D.n * 256), .map (some m), .int .i64 f0, .int .i64 D.f1, .int .i64 (if D.f2 = 0 then 0 else D.f2 - 1), .int .i64 D.f3, .bool D.cut, .int .i64 D.left] 74 :: blk bd (bs.map u8) 5 :: mapB m (es.map Ent.ie) clk :: poolA hq :: seps (es.map Ent.row) :: blk b3 [.bool fua] 4 :: blk b2 [.int .i64 (k : Int)] 3 :: blk b1 [.pointer (some ⟨pd, 0, none⟩)] 25 :: A :: R) w := H'
            clear H'
            have H' := Sep.toDisk (D := { D with f2 := tick D.f2 }) (pd := pd) (bd := bd) (m := m) (f0 := f0) (bs := bs) (es := es) (clk := clk) (hq := hq) (Γ := blk b3 [.bool fua] 4 :: blk b2 [.int .i64 (k : Int)] 3 :: blk b1 [.pointer (some ⟨pd, 0, none⟩)] 25 :: A :: R) H (hD.f hD.f1 (tick_in hD.f2) hD.f3 hD.left) (hIn.f _ _ _ _ _)
            have H : Sep z (diskA pd ({ D with f2 := tick D.f2 }) :: blk b3 [.bool fua] 4 :: blk b2 [.int .i64 (k : Int)] 3 :: blk b1 [.pointer (some ⟨pd, 0, none⟩)] 25 :: A :: R) w := H'
            clear H'
            exact ⟨[diskA pd { D with f2 := tick D.f2 }, A], .inr (.inl ⟨by omega, by simp_all, rfl, rfl⟩), H.perm 5 [0, 4] rfl rfl⟩
          · exact absurd h4 h5
        · -- no: D.f2 = 1
          refine s_region ?_
          refine s_do rfl rfl rfl (d_load rfl rfl (by kernel_rfl) (here (H.cel 3 rfl 0 rfl))) ?_
          refine s_callC rfl rfl rfl rfl rfl (fun w => Tryz.call29 _ w) (down_c _ _ _ _ _ _ _ _ _ _) H 1 [0] rfl rfl ?_
          rintro _ w _ ⟨rfl, rfl⟩ H'
          have H : Sep z (blk pd [.slice (some ⟨bd, 0, none⟩) (D.n * 256) (D.n * 256), .map (some m), .int .i64 f0, .int .i64 D.f1, .int .i64 (if D.f2 = 0 then 0 else D.f2 - 1), .int .i64 D.f3, .bool D.cut, .int .i64 D.left] 74 :: blk b3 [.bool fua] 4 :: blk b2 [.int .i64 (k : Int)] 3 :: blk b1 [.pointer (some ⟨pd, 0, none⟩)] 25 :: blk bd (bs.map u8) 5 :: mapB m (es.map Ent.ie) clk :: poolA hq :: seps (es.map Ent.row) :: A :: R) w := H'
          clear H'
          refine s_do rfl rfl rfl (d_assign rfl rfl) ?_
          refine s_end ?_
          refine k_cond rfl (fun h6 => ?_) (fun h6 => ?_)
          · -- yes: D.cut && decide (D.left = 0)
            refine k_seq ?_
            refine s_region ?_
            refine s_do rfl rfl rfl (d_assign rfl rfl) ?_
            refine s_end ?_
            refine k_ret ?_
            refine doneM0 rfl [.int .i64 11] ⟨rfl, trivial⟩ (v := .int .i64 11) rfl ?_
            have H' := H.pick 9 [0, 4, 5, 6, 7, 1, 2, 3, 8] rfl
            have H : Sep z (blk pd [.slice (some ⟨bd, 0, none⟩) (D.n * 256) (D.n * 256), .map (some m), .int .i64 f0, .int .i64 D.f1, .int .i64 (if D.f2 = 0 then 0 else D.f2 - 1), .int .i64 D.f3, .bool D.cut, .int .i64 D.left] 74 :: blk bd (bs.map u8) 5 :: mapB m (es.map Ent.ie) clk :: poolA hq :: seps (es.map Ent.row) :: blk b3 [.bool fua] 4 :: blk b2 [.int .i64 (k : Int)] 3 :: blk b1 [.pointer (some ⟨pd, 0, none⟩)] 25 :: A :: R) w := H'
            clear H'
            have H' := Sep.toDisk (D := { D with f2 := tick D.f2 }) (pd := pd) (bd := bd) (m := m) (f0 := f0) (bs := bs) (es := es) (clk := clk) (hq := hq) (Γ := blk b3 [.bool fua] 4 :: blk b2 [.int .i64 (k : Int)] 3 :: blk b1 [.pointer (some ⟨pd, 0, none⟩)] 25 :: A :: R) H (hD.f hD.f1 (tick_in hD.f2) hD.f3 hD.left) (hIn.f _ _ _ _ _)
            have H : Sep z (diskA pd ({ D with f2 := tick D.f2 }) :: blk b3 [.bool fua] 4 :: blk b2 [.int .i64 (k : Int)] 3 :: blk b1 [.pointer (some ⟨pd, 0, none⟩)] 25 :: A :: R) w := H'
            clear H'
            exact ⟨[diskA pd { D with f2 := tick D.f2 }, A], .inr (.inl ⟨by omega, by simp_all, rfl, rfl⟩), H.perm 5 [0, 4] rfl rfl⟩
          · -- no: D.cut && decide (D.left = 0)
            refine k_skip ?_
            refine k_seq ?_
            refine k_seq ?_
            refine s_region ?_
            refine s_do rfl rfl rfl (d_move rfl rfl) ?_
            refine s_callC rfl rfl rfl rfl rfl (fun w => Tryz.call39 _ w) (clone_c _ _ (ps.length * 256) _ ps.flatten _ (hA) (by omega)) H 9 [8, 0, 1, 2, 3, 4, 5, 6, 7] rfl rfl ?_
            rintro _ w _ ⟨g, cap, rest, rfl, ⟨cg, cc, cl⟩, rfl⟩ H'
            have H : Sep z (blk g (ps.flatten.map u8 ++ rest) 5 :: A :: blk pd [.slice (some ⟨bd, 0, none⟩) (D.n * 256) (D.n * 256), .map (some m), .int .i64 f0, .int .i64 D.f1, .int .i64 (if D.f2 = 0 then 0 else D.f2 - 1), .int .i64 D.f3, .bool D.cut, .int .i64 D.left] 74 :: blk b3 [.bool fua] 4 :: blk b2 [.int .i64 (k : Int)] 3 :: blk b1 [.pointer (some ⟨pd, 0, none⟩)] 25 :: blk bd (bs.map u8) 5 :: mapB m (es.map Ent.ie) clk :: poolA hq :: seps (es.map Ent.row) :: R) w := H'
            clear H'
            refine s_callC rfl rfl rfl rfl rfl (fun w => Tryz.call38 _ w) (chunk_c _ _ _ _) H 0 [] rfl rfl ?_
            rintro _ w _ ⟨bs_, bn_, rfl, rfl⟩ H'
            have H : Sep z (blk bs_ [.slice (some ⟨g, 0, none⟩) (ps.length * 256) cap] 70 :: blk bn_ [.int .i64 256] 3 :: blk g (ps.flatten.map u8 ++ rest) 5 :: A :: blk pd [.slice (some ⟨bd, 0, none⟩) (D.n * 256) (D.n * 256), .map (some m), .int .i64 f0, .int .i64 D.f1, .int .i64 (if D.f2 = 0 then 0 else D.f2 - 1), .int .i64 D.f3, .bool D.cut, .int .i64 D.left] 74 :: blk b3 [.bool fua] 4 :: blk b2 [.int .i64 (k : Int)] 3 :: blk b1 [.pointer (some ⟨pd, 0, none⟩)] 25 :: blk bd (bs.map u8) 5 :: mapB m (es.map Ent.ie) clk :: poolA hq :: seps (es.map Ent.row) :: R) w := H'
            clear H'
            refine s_end ?_
            refine k_block ?_
            have H' := H.pick 12 [10, 2, 0, 1, 3, 4, 5, 6, 7, 8, 9, 11] rfl
            have H : Sep z (poolA hq :: blk g (ps.flatten.map u8 ++ rest) 5 :: blk bs_ [.slice (some ⟨g, 0, none⟩) (ps.length * 256) cap] 70 :: blk bn_ [.int .i64 256] 3 :: A :: blk pd [.slice (some ⟨bd, 0, none⟩) (D.n * 256) (D.n * 256), .map (some m), .int .i64 f0, .int .i64 D.f1, .int .i64 (if D.f2 = 0 then 0 else D.f2 - 1), .int .i64 D.f3, .bool D.cut, .int .i64 D.left] 74 :: blk b3 [.bool fua] 4 :: blk b2 [.int .i64 (k : Int)] 3 :: blk b1 [.pointer (some ⟨pd, 0, none⟩)] 25 :: blk bd (bs.map u8) 5 :: mapB m (es.map Ent.ie) clk :: seps (es.map Ent.row) :: R) w := H'
            clear H'
            obtain ⟨hq2, ⟨hs2, hg2⟩, H'⟩ := pool_add H
            clear H
            have H : Sep z (poolA hq2 :: blk bs_ [.slice (some ⟨g, 0, none⟩) (ps.length * 256) cap] 70 :: blk bn_ [.int .i64 256] 3 :: A :: blk pd [.slice (some ⟨bd, 0, none⟩) (D.n * 256) (D.n * 256), .map (some m), .int .i64 f0, .int .i64 D.f1, .int .i64 (if D.f2 = 0 then 0 else D.f2 - 1), .int .i64 D.f3, .bool D.cut, .int .i64 D.left] 74 :: blk b3 [.bool fua] 4 :: blk b2 [.int .i64 (k : Int)] 3 :: blk b1 [.pointer (some ⟨pd, 0, none⟩)] 25 :: blk bd (bs.map u8) 5 :: mapB m (es.map Ent.ie) clk :: seps (es.map Ent.row) :: R) w := H'
            clear H'
            have H' := H.pick 11 [4, 8, 9, 0, 10, 1, 2, 3, 5, 6, 7] rfl
            have H : Sep z (blk pd [.slice (some ⟨bd, 0, none⟩) (D.n * 256) (D.n * 256), .map (some m), .int .i64 f0, .int .i64 D.f1, .int .i64 (if D.f2 = 0 then 0 else D.f2 - 1), .int .i64 D.f3, .bool D.cut, .int .i64 D.left] 74 :: blk bd (bs.map u8) 5 :: mapB m (es.map Ent.ie) clk :: poolA hq2 :: seps (es.map Ent.row) :: blk bs_ [.slice (some ⟨g, 0, none⟩) (ps.length * 256) cap] 70 :: blk bn_ [.int .i64 256] 3 :: A :: blk b3 [.bool fua] 4 :: blk b2 [.int .i64 (k : Int)] 3 :: blk b1 [.pointer (some ⟨pd, 0, none⟩)] 25 :: R) w := H'
            clear H'
            have H' := Sep.toDiskQ (D := { D with f2 := tick D.f2 }) (pd := pd) (bd := bd) (m := m) (f0 := f0) (bs := bs) (es := es) (clk := clk) (hq := hq2) (Γ := blk bs_ [.slice (some ⟨g, 0, none⟩) (ps.length * 256) cap] 70 :: blk bn_ [.int .i64 256] 3 :: A :: blk b3 [.bool fua] 4 :: blk b2 [.int .i64 (k : Int)] 3 :: blk b1 [.pointer (some ⟨pd, 0, none⟩)] 25 :: R) H (hD.f hD.f1 (tick_in hD.f2) hD.f3 hD.left) ((hIn.f _ _ _ _ _).le hs2)
            have H : Sep z (diskQ pd ({ D with f2 := tick D.f2 }) hq2 :: blk bs_ [.slice (some ⟨g, 0, none⟩) (ps.length * 256) cap] 70 :: blk bn_ [.int .i64 256] 3 :: A :: blk b3 [.bool fua] 4 :: blk b2 [.int .i64 (k : Int)] 3 :: blk b1 [.pointer (some ⟨pd, 0, none⟩)] 25 :: R) w := H'
            clear H'
            have H' := H.pick 7 [1, 2, 6, 5, 4, 0, 3] rfl
            have H : Sep z (blk bs_ [.slice (some ⟨g, 0, none⟩) (ps.length * 256) cap] 70 :: blk bn_ [.int .i64 256] 3 :: blk b1 [.pointer (some ⟨pd, 0, none⟩)] 25 :: blk b2 [.int .i64 (k : Int)] 3 :: blk b3 [.bool fua] 4 :: diskQ pd ({ D with f2 := tick D.f2 }) hq2 :: A :: R) w := H'
            clear H'
            have H' : Sep z ((blk b1 [.pointer (some ⟨pd, 0, none⟩)] 25 :: blk b2 [.int .i64 ((k + 0 : Nat) : Int)] 3 :: blk b3 [.bool fua] 4 :: diskQ pd (Dsk.ws { D with f2 := tick D.f2 } fua k (ps.take 0)) hq2 :: A :: R) ++ [blk bs_ [.slice (some ⟨g, 0, none⟩) (ps.length * 256) cap] 70, blk bn_ [.int .i64 256] 3]) w := Sep.swap (As := [blk bs_ [.slice (some ⟨g, 0, none⟩) (ps.length * 256) cap] 70, blk bn_ [.int .i64 256] 3]) (Bs := blk b1 [.pointer (some ⟨pd, 0, none⟩)] 25 :: blk b2 [.int .i64 ((k + 0 : Nat) : Int)] 3 :: blk b3 [.bool fua] 4 :: diskQ pd (Dsk.ws { D with f2 := tick D.f2 } fua k (ps.take 0)) hq2 :: A :: R) (by simpa [Dsk.ws] using H)
            clear H
            have hwsn := fun i => Dsk.ws_n fua (ps.take i) { D with f2 := tick D.f2 } k
            have hwsf := fun i => Dsk.ws_f fua (ps.take i) { D with f2 := tick D.f2 } k
            refine k_range (fun i => blk b1 [.pointer (some ⟨pd, 0, none⟩)] 25 :: blk b2 [.int .i64 ((k + i : Nat) : Int)] 3 :: blk b3 [.bool fua] 4 :: diskQ pd (Dsk.ws { D with f2 := tick D.f2 } fua k (ps.take i)) hq2 :: A :: R) rfl (fun u w => Tryz.call51 u w) rfl (chunk_it bs_ bn_ g 0 ps.length cap (by omega) (by omega) (by omega)) H' ?_ ?_
            · -- a round
              rintro ro i v hv w
              obtain ⟨hi, rfl⟩ : i < ps.length ∧ v = .slice (some ⟨g, 0 + i * 256, none⟩) 256 256 := by
                have hl := (List.getElem?_eq_some_iff.1 hv).1; simp at hl
                rw [List.getElem?_map, List.getElem?_range hl] at hv; simp at hv; exact ⟨hl, by rw [← hv, Nat.zero_add]⟩
              obtain ⟨p, hp⟩ : ∃ p, ps[i]? = some p := ⟨_, List.getElem?_eq_getElem hi⟩
              have hp256 := hps p (List.mem_of_getElem? hp)
              have hrd := piece_rd hg2 hps hp
              refine rs_region ?_
              refine s_do rfl rfl rfl (d_assign rfl rfl) ?_
              refine s_end ?_
              refine fun a hF => ⟨rfl, fun F w H' => ?_⟩
              revert a hF
              have H : Sep z (blk b1 [.pointer (some ⟨pd, 0, none⟩)] 25 :: blk b2 [.int .i64 ((k + i : Nat) : Int)] 3 :: blk b3 [.bool fua] 4 :: diskQ pd (Dsk.ws { D with f2 := tick D.f2 } fua k (ps.take i)) hq2 :: A :: (R ++ ([blk bs_ [.slice (some ⟨g, 0, none⟩) (ps.length * 256) cap] 70, blk bn_ [.int .i64 256] 3] ++ F))) w := H'
              clear H'
              have H' := H.pick 4 [3, 0, 1, 2] rfl
              have H : Sep z (diskQ pd (Dsk.ws { D with f2 := tick D.f2 } fua k (ps.take i)) hq2 :: blk b1 [.pointer (some ⟨pd, 0, none⟩)] 25 :: blk b2 [.int .i64 ((k + i : Nat) : Int)] 3 :: blk b3 [.bool fua] 4 :: A :: (R ++ ([blk bs_ [.slice (some ⟨g, 0, none⟩) (ps.length * 256) cap] 70, blk bn_ [.int .i64 256] 3] ++ F))) w := H'
              clear H'
              obtain ⟨bd, m, f0, bs, es, clk, hD2, hIn2, H'⟩ := H.diskQ
              clear H
              have H : Sep z (blk pd [.slice (some ⟨bd, 0, none⟩) ((Dsk.ws { D with f2 := tick D.f2 } fua k (ps.take i)).n * 256) ((Dsk.ws { D with f2 := tick D.f2 } fua k (ps.take i)).n * 256), .map (some m), .int .i64 f0, .int .i64 ((Dsk.ws { D with f2 := tick D.f2 } fua k (ps.take i)).f1), .int .i64 ((Dsk.ws { D with f2 := tick D.f2 } fua k (ps.take i)).f2), .int .i64 ((Dsk.ws { D with f2 := tick D.f2 } fua k (ps.take i)).f3), .bool ((Dsk.ws { D with f2 := tick D.f2 } fua k (ps.take i)).cut), .int .i64 ((Dsk.ws { D with f2 := tick D.f2 } fua k (ps.take i)).left)] 74 :: blk bd (bs.map u8) 5 :: mapB m (es.map Ent.ie) clk :: poolA hq2 :: seps (es.map Ent.row) :: blk b1 [.pointer (some ⟨pd, 0, none⟩)] 25 :: blk b2 [.int .i64 ((k + i : Nat) : Int)] 3 :: blk b3 [.bool fua] 4 :: A :: (R ++ ([blk bs_ [.slice (some ⟨g, 0, none⟩) (ps.length * 256) cap] 70, blk bn_ [.int .i64 256] 3] ++ F))) w := H'
              clear H'
              have hnn := hwsn i; have hki : k + i < (Dsk.ws { D with f2 := tick D.f2 } fua k (ps.take i)).n := by rw [hnn]; show k + i < D.n; omega
              have hnD : (Dsk.ws { D with f2 := tick D.f2 } fua k (ps.take i)).n = D.n := hnn
              refine rk_block ?_
              refine rk_seq ?_
              refine rk_seq ?_
              refine rs_region ?_
              refine s_do rfl rfl rfl (d_load rfl rfl (by kernel_rfl) (here (H.cel 7 rfl 0 rfl))) ?_
              refine s_end ?_
              refine rk_cond rfl (fun h7 => ?_) (fun h7 => ?_)
              · -- yes: fua
                subst h7
                refine rk_seq ?_
                refine rs_region ?_
                refine s_do rfl rfl rfl (d_load rfl rfl (by kernel_rfl) (here (H.cel 5 rfl 0 rfl))) ?_
                refine s_do rfl rfl rfl (d_load rfl rfl (by kernel_rfl) (here (H.cel 6 rfl 0 rfl))) ?_
                refine s_callC rfl rfl rfl rfl rfl (fun w => Tryz.call30 _ w) (own_c _ _ _ _ _ _ _ _ _ _ (k + i) (by omega) (by omega)) H 1 [0] rfl rfl ?_
                rintro _ w _ ⟨rfl, rfl⟩ H'
                have H : Sep z (blk pd [.slice (some ⟨bd, 0, none⟩) ((Dsk.ws { D with f2 := tick D.f2 } true k (ps.take i)).n * 256) ((Dsk.ws { D with f2 := tick D.f2 } true k (ps.take i)).n * 256), .map (some m), .int .i64 f0, .int .i64 ((Dsk.ws { D with f2 := tick D.f2 } true k (ps.take i)).f1), .int .i64 ((Dsk.ws { D with f2 := tick D.f2 } true k (ps.take i)).f2), .int .i64 ((Dsk.ws { D with f2 := tick D.f2 } true k (ps.take i)).f3), .bool ((Dsk.ws { D with f2 := tick D.f2 } true k (ps.take i)).cut), .int .i64 ((Dsk.ws { D with f2 := tick D.f2 } true k (ps.take i)).left)] 74 :: blk bd (bs.map u8) 5 :: mapB m (es.map Ent.ie) clk :: poolA hq2 :: seps (es.map Ent.row) :: blk b1 [.pointer (some ⟨pd, 0, none⟩)] 25 :: blk b2 [.int .i64 ((k + i : Nat) : Int)] 3 :: blk b3 [.bool true] 4 :: A :: (R ++ ([blk bs_ [.slice (some ⟨g, 0, none⟩) (ps.length * 256) cap] 70, blk bn_ [.int .i64 256] 3] ++ F))) w := H'
                clear H'
                refine s_do rfl rfl rfl (d_move rfl rfl) ?_
                refine s_go rfl rfl rfl (n_copy 1 H rfl rfl (by kernel_rfl) rfl rfl (m := 256) (news := (p.map u8)) (.inl (H.rd 3 rfl (fun h q => hrd.le q))) (by simp [u8, Value.oneCell']) (by have := hIn2.len; simp; omega) (k := 256) (by omega) (out := ((bs.take ((k + i) * 256) ++ p ++ bs.drop ((k + i) * 256 + 256)).map u8)) (by simp [hp256, List.take_of_length_le])) ?_
                rintro _ w ⟨rfl, H'⟩
                have H : Sep z (blk pd [.slice (some ⟨bd, 0, none⟩) ((Dsk.ws { D with f2 := tick D.f2 } true k (ps.take i)).n * 256) ((Dsk.ws { D with f2 := tick D.f2 } true k (ps.take i)).n * 256), .map (some m), .int .i64 f0, .int .i64 ((Dsk.ws { D with f2 := tick D.f2 } true k (ps.take i)).f1), .int .i64 ((Dsk.ws { D with f2 := tick D.f2 } true k (ps.take i)).f2), .int .i64 ((Dsk.ws { D with f2 := tick D.f2 } true k (ps.take i)).f3), .bool ((Dsk.ws { D with f2 := tick D.f2 } true k (ps.take i)).cut), .int .i64 ((Dsk.ws { D with f2 := tick D.f2 } true k (ps.take i)).left)] 74 :: blk bd ((bs.take ((k + i) * 256) ++ p ++ bs.drop ((k + i) * 256 + 256)).map u8) 5 :: mapB m (es.map Ent.ie) clk :: poolA hq2 :: seps (es.map Ent.row) :: blk b1 [.pointer (some ⟨pd, 0, none⟩)] 25 :: blk b2 [.int .i64 ((k + i : Nat) : Int)] 3 :: blk b3 [.bool true] 4 :: A :: (R ++ ([blk bs_ [.slice (some ⟨g, 0, none⟩) (ps.length * 256) cap] 70, blk bn_ [.int .i64 256] 3] ++ F))) w := H'
                clear H'
                refine s_end ?_
                refine rl_region (Sep z (blk pd [.slice (some ⟨bd, 0, none⟩) ((Dsk.ws { D with f2 := tick D.f2 } true k (ps.take i)).n * 256) ((Dsk.ws { D with f2 := tick D.f2 } true k (ps.take i)).n * 256), .map (some m), .int .i64 f0, .int .i64 ((Dsk.ws { D with f2 := tick D.f2 } true k (ps.take i)).f1), .int .i64 ((Dsk.ws { D with f2 := tick D.f2 } true k (ps.take i)).f2), .int .i64 ((Dsk.ws { D with f2 := tick D.f2 } true k (ps.take i)).f3), .bool ((Dsk.ws { D with f2 := tick D.f2 } true k (ps.take i)).cut), .int .i64 ((Dsk.ws { D with f2 := tick D.f2 } true k (ps.take i)).left)] 74 :: blk bd ((bs.take ((k + i) * 256) ++ p ++ bs.drop ((k + i) * 256 + 256)).map u8) 5 :: mapB m (es.map Ent.ie) clk :: poolA hq2 :: seps (es.map Ent.row) :: blk b1 [.pointer (some ⟨pd, 0, none⟩)] 25 :: blk b2 [.int .i64 ((k + i : Nat) : Int)] 3 :: blk b3 [.bool true] 4 :: A :: (R ++ ([blk bs_ [.slice (some ⟨g, 0, none⟩) (ps.length * 256) cap] 70, blk bn_ [.int .i64 256] 3] ++ F)))) 6 rfl (by kernel_rfl) (fun w' x' _ => ?_)
                have H' := H.ext0 x'; clear x' H; revert H'; generalize w' = w; intro H'
                have H : Sep z (blk pd [.slice (some ⟨bd, 0, none⟩) ((Dsk.ws { D with f2 := tick D.f2 } true k (ps.take i)).n * 256) ((Dsk.ws { D with f2 := tick D.f2 } true k (ps.take i)).n * 256), .map (some m), .int .i64 f0, .int .i64 ((Dsk.ws { D with f2 := tick D.f2 } true k (ps.take i)).f1), .int .i64 ((Dsk.ws { D with f2 := tick D.f2 } true k (ps.take i)).f2), .int .i64 ((Dsk.ws { D with f2 := tick D.f2 } true k (ps.take i)).f3), .bool ((Dsk.ws { D with f2 := tick D.f2 } true k (ps.take i)).cut), .int .i64 ((Dsk.ws { D with f2 := tick D.f2 } true k (ps.take i)).left)] 74 :: blk bd ((bs.take ((k + i) * 256) ++ p ++ bs.drop ((k + i) * 256 + 256)).map u8) 5 :: mapB m (es.map Ent.ie) clk :: poolA hq2 :: seps (es.map Ent.row) :: blk b1 [.pointer (some ⟨pd, 0, none⟩)] 25 :: blk b2 [.int .i64 ((k + i : Nat) : Int)] 3 :: blk b3 [.bool true] 4 :: A :: (R ++ ([blk bs_ [.slice (some ⟨g, 0, none⟩) (ps.length * 256) cap] 70, blk bn_ [.int .i64 256] 3] ++ F))) w := H'
                clear H'
                refine l_do 0 (by kernel_rfl) rfl rfl (by kernel_rfl) (by kernel_rfl) (by kernel_rfl) rfl rfl rfl (d_load rfl rfl (by kernel_rfl) (fun _ hx => hx.cel 5 rfl 0 rfl)) (H.pick 9 [0, 1, 2, 3, 4, 5, 6, 7, 8] rfl) ?_
                refine l_do 1 (by kernel_rfl) rfl rfl (by kernel_rfl) (by kernel_rfl) (by kernel_rfl) rfl rfl rfl (d_nilCheck rfl rfl) (H.pick 9 [0, 1, 2, 3, 4, 5, 6, 7, 8] rfl) ?_
                refine l_do 2 (by kernel_rfl) rfl rfl (by kernel_rfl) (by kernel_rfl) (by kernel_rfl) rfl rfl rfl (d_field rfl (k := 1) (r := 1) (by kernel_rfl) rfl rfl) (H.pick 9 [0, 1, 2, 3, 4, 5, 6, 7, 8] rfl) ?_
                refine l_do 3 (by kernel_rfl) rfl rfl (by kernel_rfl) (by kernel_rfl) (by kernel_rfl) rfl rfl rfl (d_load rfl rfl (by kernel_rfl) (fun _ hx => hx.cel 0 rfl 1 rfl)) (H.pick 9 [0, 1, 2, 3, 4, 5, 6, 7, 8] rfl) ?_
                refine l_do 4 (by kernel_rfl) rfl rfl (by kernel_rfl) (by kernel_rfl) (by kernel_rfl) rfl rfl rfl (d_load rfl rfl (by kernel_rfl) (fun _ hx => hx.cel 6 rfl 0 rfl)) (H.pick 9 [0, 1, 2, 3, 4, 5, 6, 7, 8] rfl) ?_
                refine l_all [5] (by kernel_rfl) (by simp) ?_
                refine all1 ?_
                refine o_go0 rfl rfl rfl (n_delete 2 (e := 90) H rfl rfl (by kernel_rfl) rfl rfl) ?_
                rintro _ w ⟨rfl, H'⟩
                have H : Sep z (blk pd [.slice (some ⟨bd, 0, none⟩) ((Dsk.ws { D with f2 := tick D.f2 } true k (ps.take i)).n * 256) ((Dsk.ws { D with f2 := tick D.f2 } true k (ps.take i)).n * 256), .map (some m), .int .i64 f0, .int .i64 ((Dsk.ws { D with f2 := tick D.f2 } true k (ps.take i)).f1), .int .i64 ((Dsk.ws { D with f2 := tick D.f2 } true k (ps.take i)).f2), .int .i64 ((Dsk.ws { D with f2 := tick D.f2 } true k (ps.take i)).f3), .bool ((Dsk.ws { D with f2 := tick D.f2 } true k (ps.take i)).cut), .int .i64 ((Dsk.ws { D with f2 := tick D.f2 } true k (ps.take i)).left)] 74 :: blk bd ((bs.take ((k + i) * 256) ++ p ++ bs.drop ((k + i) * 256 + 256)).map u8) 5 :: mapB m (delM (es.map Ent.ie) ((k + i : Nat) : Int)) clk :: poolA hq2 :: seps (es.map Ent.row) :: blk b1 [.pointer (some ⟨pd, 0, none⟩)] 25 :: blk b2 [.int .i64 ((k + i : Nat) : Int)] 3 :: blk b3 [.bool true] 4 :: A :: (R ++ ([blk bs_ [.slice (some ⟨g, 0, none⟩) (ps.length * 256) cap] 70, blk bn_ [.int .i64 256] 3] ++ F))) w := H'
                clear H'
                refine l_and (fun h => absurd rfl h) ?_
                refine l_done (by kernel_rfl) ?_
                obtain ⟨es2, hIn3, hpe, hrow⟩ := del_split hIn2 hki hp256 (bs' := (bs.take ((k + i) * 256) ++ p ++ bs.drop ((k + i) * 256 + 256))) rfl
                have H' := H.pick 9 [4, 0, 1, 2, 3, 5, 6, 7, 8] rfl
                have H : Sep z (seps (es.map Ent.row) :: blk pd [.slice (some ⟨bd, 0, none⟩) ((Dsk.ws { D with f2 := tick D.f2 } true k (ps.take i)).n * 256) ((Dsk.ws { D with f2 := tick D.f2 } true k (ps.take i)).n * 256), .map (some m), .int .i64 f0, .int .i64 ((Dsk.ws { D with f2 := tick D.f2 } true k (ps.take i)).f1), .int .i64 ((Dsk.ws { D with f2 := tick D.f2 } true k (ps.take i)).f2), .int .i64 ((Dsk.ws { D with f2 := tick D.f2 } true k (ps.take i)).f3), .bool ((Dsk.ws { D with f2 := tick D.f2 } true k (ps.take i)).cut), .int .i64 ((Dsk.ws { D with f2 := tick D.f2 } true k (ps.take i)).left)] 74 :: blk bd ((bs.take ((k + i) * 256) ++ p ++ bs.drop ((k + i) * 256 + 256)).map u8) 5 :: mapB m (delM (es.map Ent.ie) ((k + i : Nat) : Int)) clk :: poolA hq2 :: blk b1 [.pointer (some ⟨pd, 0, none⟩)] 25 :: blk b2 [.int .i64 ((k + i : Nat) : Int)] 3 :: blk b3 [.bool true] 4 :: A :: (R ++ ([blk bs_ [.slice (some ⟨g, 0, none⟩) (ps.length * 256) cap] 70, blk bn_ [.int .i64 256] 3] ++ F))) w := H'
                clear H'
                have H' := H.mono 0 rfl hrow
                rw [hpe] at H'
                have H : Sep z (seps (es2.map Ent.row) :: blk pd [.slice (some ⟨bd, 0, none⟩) ((Dsk.ws { D with f2 := tick D.f2 } true k (ps.take i)).n * 256) ((Dsk.ws { D with f2 := tick D.f2 } true k (ps.take i)).n * 256), .map (some m), .int .i64 f0, .int .i64 ((Dsk.ws { D with f2 := tick D.f2 } true k (ps.take i)).f1), .int .i64 ((Dsk.ws { D with f2 := tick D.f2 } true k (ps.take i)).f2), .int .i64 ((Dsk.ws { D with f2 := tick D.f2 } true k (ps.take i)).f3), .bool ((Dsk.ws { D with f2 := tick D.f2 } true k (ps.take i)).cut), .int .i64 ((Dsk.ws { D with f2 := tick D.f2 } true k (ps.take i)).left)] 74 :: blk bd ((bs.take ((k + i) * 256) ++ p ++ bs.drop ((k + i) * 256 + 256)).map u8) 5 :: mapB m (es2.map Ent.ie) clk :: poolA hq2 :: blk b1 [.pointer (some ⟨pd, 0, none⟩)] 25 :: blk b2 [.int .i64 ((k + i : Nat) : Int)] 3 :: blk b3 [.bool true] 4 :: A :: (R ++ ([blk bs_ [.slice (some ⟨g, 0, none⟩) (ps.length * 256) cap] 70, blk bn_ [.int .i64 256] 3] ++ F))) w := H'
                clear H'
                have H' := H.pick 9 [1, 2, 3, 4, 0, 5, 6, 7, 8] rfl
                have H : Sep z (blk pd [.slice (some ⟨bd, 0, none⟩) ((Dsk.ws { D with f2 := tick D.f2 } true k (ps.take i)).n * 256) ((Dsk.ws { D with f2 := tick D.f2 } true k (ps.take i)).n * 256), .map (some m), .int .i64 f0, .int .i64 ((Dsk.ws { D with f2 := tick D.f2 } true k (ps.take i)).f1), .int .i64 ((Dsk.ws { D with f2 := tick D.f2 } true k (ps.take i)).f2), .int .i64 ((Dsk.ws { D with f2 := tick D.f2 } true k (ps.take i)).f3), .bool ((Dsk.ws { D with f2 := tick D.f2 } true k (ps.take i)).cut), .int .i64 ((Dsk.ws { D with f2 := tick D.f2 } true k (ps.take i)).left)] 74 :: blk bd ((bs.take ((k + i) * 256) ++ p ++ bs.drop ((k + i) * 256 + 256)).map u8) 5 :: mapB m (es2.map Ent.ie) clk :: poolA hq2 :: seps (es2.map Ent.row) :: blk b1 [.pointer (some ⟨pd, 0, none⟩)] 25 :: blk b2 [.int .i64 ((k + i : Nat) : Int)] 3 :: blk b3 [.bool true] 4 :: A :: (R ++ ([blk bs_ [.slice (some ⟨g, 0, none⟩) (ps.length * 256) cap] 70, blk bn_ [.int .i64 256] 3] ++ F))) w := H'
                clear H'
                have e3 : Dsk.ws { D with f2 := tick D.f2 } true k (ps.take (i + 1)) = (Dsk.ws { D with f2 := tick D.f2 } true k (ps.take i)).w1 true (k + i) p := by rw [Dsk.ws_take hp]
                have H' := Sep.toDiskQ (D := (Dsk.ws { D with f2 := tick D.f2 } true k (ps.take i)).w1 true (k + i) p) (pd := pd) (bd := bd) (m := m) (f0 := f0) (bs := (bs.take ((k + i) * 256) ++ p ++ bs.drop ((k + i) * 256 + 256))) (es := es2) (clk := clk) (hq := hq2) (Γ := blk b1 [.pointer (some ⟨pd, 0, none⟩)] 25 :: blk b2 [.int .i64 ((k + i : Nat) : Int)] 3 :: blk b3 [.bool true] 4 :: A :: (R ++ ([blk bs_ [.slice (some ⟨g, 0, none⟩) (ps.length * 256) cap] 70, blk bn_ [.int .i64 256] 3] ++ F))) H (hD2.w1 hp256) hIn3
                rw [← e3] at H'
                have H : Sep z (diskQ pd (Dsk.ws { D with f2 := tick D.f2 } true k (ps.take (i + 1))) hq2 :: blk b1 [.pointer (some ⟨pd, 0, none⟩)] 25 :: blk b2 [.int .i64 ((k + i : Nat) : Int)] 3 :: blk b3 [.bool true] 4 :: A :: (R ++ ([blk bs_ [.slice (some ⟨g, 0, none⟩) (ps.length * 256) cap] 70, blk bn_ [.int .i64 256] 3] ++ F))) w := H'
                clear H'
                refine rs_region ?_
                refine s_do rfl rfl rfl (d_load rfl rfl (by kernel_rfl) (here (H.cel 2 rfl 0 rfl))) ?_
                refine s_do rfl rfl rfl (d_add64 rfl rfl rfl (r := ((k + (i + 1) : Nat) : Int)) (by omega) (by omega)) ?_
                refine s_put rfl rfl (n_store 2 H rfl rfl rfl rfl (vs := [.int .i64 ((k + (i + 1) : Nat) : Int)]) rfl (by simp [u8, u32, Value.oneCell']) (by kernel_rfl) (by simp) (out := [.int .i64 ((k + (i + 1) : Nat) : Int)]) rfl) ?_
                rintro w H'
                have H : Sep z (diskQ pd (Dsk.ws { D with f2 := tick D.f2 } true k (ps.take (i + 1))) hq2 :: blk b1 [.pointer (some ⟨pd, 0, none⟩)] 25 :: blk b2 [.int .i64 ((k + (i + 1) : Nat) : Int)] 3 :: blk b3 [.bool true] 4 :: A :: (R ++ ([blk bs_ [.slice (some ⟨g, 0, none⟩) (ps.length * 256) cap] 70, blk bn_ [.int .i64 256] 3] ++ F))) w := H'
                clear H'
                refine s_end ?_
                have H' := H.pick 5 [1, 2, 3, 0, 4] rfl
                have H : Sep z (blk b1 [.pointer (some ⟨pd, 0, none⟩)] 25 :: blk b2 [.int .i64 ((k + (i + 1) : Nat) : Int)] 3 :: blk b3 [.bool true] 4 :: diskQ pd (Dsk.ws { D with f2 := tick D.f2 } true k (ps.take (i + 1))) hq2 :: A :: (R ++ ([blk bs_ [.slice (some ⟨g, 0, none⟩) (ps.length * 256) cap] 70, blk bn_ [.int .i64 256] 3] ++ F))) w := H'
                clear H'
                exact fun _ _ => H
              · -- no: fua
                subst h7
                have H' := H.pick 9 [4, 0, 1, 2, 3, 5, 6, 7, 8] rfl
                have H : Sep z (seps (es.map Ent.row) :: blk pd [.slice (some ⟨bd, 0, none⟩) ((Dsk.ws { D with f2 := tick D.f2 } false k (ps.take i)).n * 256) ((Dsk.ws { D with f2 := tick D.f2 } false k (ps.take i)).n * 256), .map (some m), .int .i64 f0, .int .i64 ((Dsk.ws { D with f2 := tick D.f2 } false k (ps.take i)).f1), .int .i64 ((Dsk.ws { D with f2 := tick D.f2 } false k (ps.take i)).f2), .int .i64 ((Dsk.ws { D with f2 := tick D.f2 } false k (ps.take i)).f3), .bool ((Dsk.ws { D with f2 := tick D.f2 } false k (ps.take i)).cut), .int .i64 ((Dsk.ws { D with f2 := tick D.f2 } false k (ps.take i)).left)] 74 :: blk bd (bs.map u8) 5 :: mapB m (es.map Ent.ie) clk :: poolA hq2 :: blk b1 [.pointer (some ⟨pd, 0, none⟩)] 25 :: blk b2 [.int .i64 ((k + i : Nat) : Int)] 3 :: blk b3 [.bool false] 4 :: A :: (R ++ ([blk bs_ [.slice (some ⟨g, 0, none⟩) (ps.length * 256) cap] 70, blk bn_ [.int .i64 256] 3] ++ F))) w := H'
                clear H'
                obtain ⟨v0, pvs, Rest, hgv, hpl, H', hcl⟩ := row_split hIn2 hki H
                clear H
                have H : Sep z (grow 70 1 v0 pvs.length pvs :: seps Rest :: blk pd [.slice (some ⟨bd, 0, none⟩) ((Dsk.ws { D with f2 := tick D.f2 } false k (ps.take i)).n * 256) ((Dsk.ws { D with f2 := tick D.f2 } false k (ps.take i)).n * 256), .map (some m), .int .i64 f0, .int .i64 ((Dsk.ws { D with f2 := tick D.f2 } false k (ps.take i)).f1), .int .i64 ((Dsk.ws { D with f2 := tick D.f2 } false k (ps.take i)).f2), .int .i64 ((Dsk.ws { D with f2 := tick D.f2 } false k (ps.take i)).f3), .bool ((Dsk.ws { D with f2 := tick D.f2 } false k (ps.take i)).cut), .int .i64 ((Dsk.ws { D with f2 := tick D.f2 } false k (ps.take i)).left)] 74 :: blk bd (bs.map u8) 5 :: mapB m (es.map Ent.ie) clk :: poolA hq2 :: blk b1 [.pointer (some ⟨pd, 0, none⟩)] 25 :: blk b2 [.int .i64 ((k + i : Nat) : Int)] 3 :: blk b3 [.bool false] 4 :: A :: (R ++ ([blk bs_ [.slice (some ⟨g, 0, none⟩) (ps.length * 256) cap] 70, blk bn_ [.int .i64 256] 3] ++ F))) w := H'
                clear H'
                have sv0 := H.says 0 rfl (fun h q => q.slc)
                have hpl2 : pvs.length ≤ 1099511627776 := by rw [hpl, Dsk.ws_ver _ _ _ _ _ (.inr (by rw [List.length_take]; omega))]; exact hver _
                refine rl_region (Sep z (emp :: seps Rest :: blk pd [.slice (some ⟨bd, 0, none⟩) ((Dsk.ws { D with f2 := tick D.f2 } false k (ps.take i)).n * 256) ((Dsk.ws { D with f2 := tick D.f2 } false k (ps.take i)).n * 256), .map (some m), .int .i64 f0, .int .i64 ((Dsk.ws { D with f2 := tick D.f2 } false k (ps.take i)).f1), .int .i64 ((Dsk.ws { D with f2 := tick D.f2 } false k (ps.take i)).f2), .int .i64 ((Dsk.ws { D with f2 := tick D.f2 } false k (ps.take i)).f3), .bool ((Dsk.ws { D with f2 := tick D.f2 } false k (ps.take i)).cut), .int .i64 ((Dsk.ws { D with f2 := tick D.f2 } false k (ps.take i)).left)] 74 :: blk bd (bs.map u8) 5 :: mapB m (es.map Ent.ie) clk :: poolA hq2 :: blk b1 [.pointer (some ⟨pd, 0, none⟩)] 25 :: blk b2 [.int .i64 ((k + i : Nat) : Int)] 3 :: blk b3 [.bool false] 4 :: A :: (R ++ ([blk bs_ [.slice (some ⟨g, 0, none⟩) (ps.length * 256) cap] 70, blk bn_ [.int .i64 256] 3] ++ F)))) 15 rfl (by kernel_rfl) (fun w' x' _ => ?_)
                have H' := H.ext0 x'; clear x' H; revert H'; generalize w' = w; intro H'
                have H : Sep z (grow 70 1 v0 pvs.length pvs :: seps Rest :: blk pd [.slice (some ⟨bd, 0, none⟩) ((Dsk.ws { D with f2 := tick D.f2 } false k (ps.take i)).n * 256) ((Dsk.ws { D with f2 := tick D.f2 } false k (ps.take i)).n * 256), .map (some m), .int .i64 f0, .int .i64 ((Dsk.ws { D with f2 := tick D.f2 } false k (ps.take i)).f1), .int .i64 ((Dsk.ws { D with f2 := tick D.f2 } false k (ps.take i)).f2), .int .i64 ((Dsk.ws { D with f2 := tick D.f2 } false k (ps.take i)).f3), .bool ((Dsk.ws { D with f2 := tick D.f2 } false k (ps.take i)).cut), .int .i64 ((Dsk.ws { D with f2 := tick D.f2 } false k (ps.take i)).left)] 74 :: blk bd (bs.map u8) 5 :: mapB m (es.map Ent.ie) clk :: poolA hq2 :: blk b1 [.pointer (some ⟨pd, 0, none⟩)] 25 :: blk b2 [.int .i64 ((k + i : Nat) : Int)] 3 :: blk b3 [.bool false] 4 :: A :: (R ++ ([blk bs_ [.slice (some ⟨g, 0, none⟩) (ps.length * 256) cap] 70, blk bn_ [.int .i64 256] 3] ++ F))) w := H'
                clear H'
                refine l_do 0 (by kernel_rfl) rfl rfl (by kernel_rfl) (by kernel_rfl) (by kernel_rfl) rfl rfl rfl (d_load rfl rfl (by kernel_rfl) (fun _ hx => hx.cel 6 rfl 0 rfl)) (Sep.mono 0 (B := emp) (H.pick 10 [0, 1, 2, 3, 4, 5, 6, 7, 8, 9] rfl) rfl (fun _ _ => trivial)) ?_
                refine l_do 1 (by kernel_rfl) rfl rfl (by kernel_rfl) (by kernel_rfl) (by kernel_rfl) rfl rfl rfl (d_nilCheck rfl rfl) (Sep.mono 0 (B := emp) (H.pick 10 [0, 1, 2, 3, 4, 5, 6, 7, 8, 9] rfl) rfl (fun _ _ => trivial)) ?_
                refine l_do 2 (by kernel_rfl) rfl rfl (by kernel_rfl) (by kernel_rfl) (by kernel_rfl) rfl rfl rfl (d_field rfl (k := 1) (r := 1) (by kernel_rfl) rfl rfl) (Sep.mono 0 (B := emp) (H.pick 10 [0, 1, 2, 3, 4, 5, 6, 7, 8, 9] rfl) rfl (fun _ _ => trivial)) ?_
                refine l_do 3 (by kernel_rfl) rfl rfl (by kernel_rfl) (by kernel_rfl) (by kernel_rfl) rfl rfl rfl (d_load rfl rfl (by kernel_rfl) (fun _ hx => hx.cel 2 rfl 1 rfl)) (Sep.mono 0 (B := emp) (H.pick 10 [0, 1, 2, 3, 4, 5, 6, 7, 8, 9] rfl) rfl (fun _ _ => trivial)) ?_
                refine l_do 4 (by kernel_rfl) rfl rfl (by kernel_rfl) (by kernel_rfl) (by kernel_rfl) rfl rfl rfl (d_load rfl rfl (by kernel_rfl) (fun _ hx => hx.cel 7 rfl 0 rfl)) (Sep.mono 0 (B := emp) (H.pick 10 [0, 1, 2, 3, 4, 5, 6, 7, 8, 9] rfl) rfl (fun _ _ => trivial)) ?_
                refine l_do 5 (by kernel_rfl) rfl rfl (by kernel_rfl) (by kernel_rfl) (by kernel_rfl) rfl rfl rfl (d_load rfl rfl (by kernel_rfl) (fun _ hx => hx.cel 6 rfl 0 rfl)) (Sep.mono 0 (B := emp) (H.pick 10 [0, 1, 2, 3, 4, 5, 6, 7, 8, 9] rfl) rfl (fun _ _ => trivial)) ?_
                refine l_do 6 (by kernel_rfl) rfl rfl (by kernel_rfl) (by kernel_rfl) (by kernel_rfl) rfl rfl rfl (d_nilCheck rfl rfl) (Sep.mono 0 (B := emp) (H.pick 10 [0, 1, 2, 3, 4, 5, 6, 7, 8, 9] rfl) rfl (fun _ _ => trivial)) ?_
                refine l_do 7 (by kernel_rfl) rfl rfl (by kernel_rfl) (by kernel_rfl) (by kernel_rfl) rfl rfl rfl (d_field rfl (k := 1) (r := 1) (by kernel_rfl) rfl rfl) (Sep.mono 0 (B := emp) (H.pick 10 [0, 1, 2, 3, 4, 5, 6, 7, 8, 9] rfl) rfl (fun _ _ => trivial)) ?_
                refine l_do 8 (by kernel_rfl) rfl rfl (by kernel_rfl) (by kernel_rfl) (by kernel_rfl) rfl rfl rfl (d_load rfl rfl (by kernel_rfl) (fun _ hx => hx.cel 2 rfl 1 rfl)) (Sep.mono 0 (B := emp) (H.pick 10 [0, 1, 2, 3, 4, 5, 6, 7, 8, 9] rfl) rfl (fun _ _ => trivial)) ?_
                refine l_do 9 (by kernel_rfl) rfl rfl (by kernel_rfl) (by kernel_rfl) (by kernel_rfl) rfl rfl rfl (d_load rfl rfl (by kernel_rfl) (fun _ hx => hx.cel 7 rfl 0 rfl)) (Sep.mono 0 (B := emp) (H.pick 10 [0, 1, 2, 3, 4, 5, 6, 7, 8, 9] rfl) rfl (fun _ _ => trivial)) ?_
                refine l_do 10 (by kernel_rfl) rfl rfl (by kernel_rfl) (by kernel_rfl) (by kernel_rfl) rfl rfl rfl (d_lookup (e := 90) (zv := .slice none 0 0) rfl (by kernel_rfl) (by kernel_rfl) rfl rfl (fun _ hx => hx.bk 4 rfl)) (Sep.mono 0 (B := emp) (H.pick 10 [0, 1, 2, 3, 4, 5, 6, 7, 8, 9] rfl) rfl (fun _ _ => trivial)) ?_
                refine k_updA 58 (u := (getM (es.map Ent.ie) ((k + i : Nat) : Int)).getD (.slice none 0 0)) (v := v0) rfl hgv ?_
                refine l_do 11 (by kernel_rfl) rfl rfl (by kernel_rfl) (by kernel_rfl) (by kernel_rfl) rfl rfl rfl (d_move rfl rfl) (Sep.mono 0 (B := emp) (H.pick 10 [0, 1, 2, 3, 4, 5, 6, 7, 8, 9] rfl) rfl (fun _ _ => trivial)) ?_
                refine l_all [12] (by kernel_rfl) (by simp) ?_
                refine all1 ?_
                refine o_go rfl rfl rfl rfl (n_buildSlice H rfl (by kernel_rfl) (Elt.mk (P := Tryz.prog) (e := 70) (z := .slice none 0 0) (sz := 1) (by_ := 24) (by kernel_rfl) rfl (by omega) (by omega)) rfl (by decide) (by decide) (out := [.slice (some ⟨g, (0 + i * 256), none⟩) 256 256]) (by kernel_rfl)) ?_
                rintro _ w ⟨b4, rfl, H'⟩
                have H : Sep z (blk b4 [.slice (some ⟨g, (0 + i * 256), none⟩) 256 256] 70 :: grow 70 1 v0 pvs.length pvs :: seps Rest :: blk pd [.slice (some ⟨bd, 0, none⟩) ((Dsk.ws { D with f2 := tick D.f2 } false k (ps.take i)).n * 256) ((Dsk.ws { D with f2 := tick D.f2 } false k (ps.take i)).n * 256), .map (some m), .int .i64 f0, .int .i64 ((Dsk.ws { D with f2 := tick D.f2 } false k (ps.take i)).f1), .int .i64 ((Dsk.ws { D with f2 := tick D.f2 } false k (ps.take i)).f2), .int .i64 ((Dsk.ws { D with f2 := tick D.f2 } false k (ps.take i)).f3), .bool ((Dsk.ws { D with f2 := tick D.f2 } false k (ps.take i)).cut), .int .i64 ((Dsk.ws { D with f2 := tick D.f2 } false k (ps.take i)).left)] 74 :: blk bd (bs.map u8) 5 :: mapB m (es.map Ent.ie) clk :: poolA hq2 :: blk b1 [.pointer (some ⟨pd, 0, none⟩)] 25 :: blk b2 [.int .i64 ((k + i : Nat) : Int)] 3 :: blk b3 [.bool false] 4 :: A :: (R ++ ([blk bs_ [.slice (some ⟨g, 0, none⟩) (ps.length * 256) cap] 70, blk bn_ [.int .i64 256] 3] ++ F))) w := H'
                clear H'
                refine l_and (fun _ => (Sep.mono 0 (B := emp) (H.pick 11 [1, 2, 3, 4, 5, 6, 7, 8, 9, 10] rfl) rfl (fun _ _ => trivial))) ?_
                refine l_all [13] (by kernel_rfl) (by simp) ?_
                refine all1 ?_
                refine o_go rfl rfl rfl rfl (n_append 1 H rfl rfl (by kernel_rfl) (Elt.mk (P := Tryz.prog) (e := 70) (z := .slice none 0 0) (sz := 1) (by_ := 24) (by kernel_rfl) rfl (by omega) (by omega)) rfl rfl (H.rd 0 rfl (fun h q => q.rd (by omega) (by omega) (by simp) rfl)) (by simp [Value.oneCell']) (by omega)) ?_
                rintro v5 w H'
                have H : Sep z (blk b4 [.slice (some ⟨g, (0 + i * 256), none⟩) 256 256] 70 :: grow 70 1 v5 (pvs.length + 1) (pvs ++ [.slice (some ⟨g, (0 + i * 256), none⟩) 256 256]) :: seps Rest :: blk pd [.slice (some ⟨bd, 0, none⟩) ((Dsk.ws { D with f2 := tick D.f2 } false k (ps.take i)).n * 256) ((Dsk.ws { D with f2 := tick D.f2 } false k (ps.take i)).n * 256), .map (some m), .int .i64 f0, .int .i64 ((Dsk.ws { D with f2 := tick D.f2 } false k (ps.take i)).f1), .int .i64 ((Dsk.ws { D with f2 := tick D.f2 } false k (ps.take i)).f2), .int .i64 ((Dsk.ws { D with f2 := tick D.f2 } false k (ps.take i)).f3), .bool ((Dsk.ws { D with f2 := tick D.f2 } false k (ps.take i)).cut), .int .i64 ((Dsk.ws { D with f2 := tick D.f2 } false k (ps.take i)).left)] 74 :: blk bd (bs.map u8) 5 :: mapB m (es.map Ent.ie) clk :: poolA hq2 :: blk b1 [.pointer (some ⟨pd, 0, none⟩)] 25 :: blk b2 [.int .i64 ((k + i : Nat) : Int)] 3 :: blk b3 [.bool false] 4 :: A :: (R ++ ([blk bs_ [.slice (some ⟨g, 0, none⟩) (ps.length * 256) cap] 70, blk bn_ [.int .i64 256] 3] ++ F))) w := H'
                clear H'
                have sv5 := H.says 1 rfl (fun h q => q.slc)
                refine l_and (fun _ => (Sep.mono 0 (B := emp) (H.pick 11 [1, 2, 3, 4, 5, 6, 7, 8, 9, 10] rfl) rfl (fun _ _ => trivial))) ?_
                refine l_all [14] (by kernel_rfl) (by simp) ?_
                refine all1 ?_
                refine o_put rfl rfl rfl (n_mapUpdate 5 (e := 90) H rfl rfl (by kernel_rfl) rfl rfl rfl) ?_
                rintro w H'
                have H : Sep z (blk b4 [.slice (some ⟨g, (0 + i * 256), none⟩) 256 256] 70 :: grow 70 1 v5 (pvs.length + 1) (pvs ++ [.slice (some ⟨g, (0 + i * 256), none⟩) 256 256]) :: seps Rest :: blk pd [.slice (some ⟨bd, 0, none⟩) ((Dsk.ws { D with f2 := tick D.f2 } false k (ps.take i)).n * 256) ((Dsk.ws { D with f2 := tick D.f2 } false k (ps.take i)).n * 256), .map (some m), .int .i64 f0, .int .i64 ((Dsk.ws { D with f2 := tick D.f2 } false k (ps.take i)).f1), .int .i64 ((Dsk.ws { D with f2 := tick D.f2 } false k (ps.take i)).f2), .int .i64 ((Dsk.ws { D with f2 := tick D.f2 } false k (ps.take i)).f3), .bool ((Dsk.ws { D with f2 := tick D.f2 } false k (ps.take i)).cut), .int .i64 ((Dsk.ws { D with f2 := tick D.f2 } false k (ps.take i)).left)] 74 :: blk bd (bs.map u8) 5 :: mapB m (putM (es.map Ent.ie) ((k + i : Nat) : Int) v5 clk) (putC (es.map Ent.ie) ((k + i : Nat) : Int) clk) :: poolA hq2 :: blk b1 [.pointer (some ⟨pd, 0, none⟩)] 25 :: blk b2 [.int .i64 ((k + i : Nat) : Int)] 3 :: blk b3 [.bool false] 4 :: A :: (R ++ ([blk bs_ [.slice (some ⟨g, 0, none⟩) (ps.length * 256) cap] 70, blk bn_ [.int .i64 256] 3] ++ F))) w := H'
                clear H'
                refine l_and (fun h => absurd rfl h) ?_
                refine l_done (by kernel_rfl) ?_
                have H' := H.pick 11 [1, 2, 0, 3, 4, 5, 6, 7, 8, 9, 10] rfl
                have H : Sep z (grow 70 1 v5 (pvs.length + 1) (pvs ++ [.slice (some ⟨g, (0 + i * 256), none⟩) 256 256]) :: seps Rest :: blk b4 [.slice (some ⟨g, (0 + i * 256), none⟩) 256 256] 70 :: blk pd [.slice (some ⟨bd, 0, none⟩) ((Dsk.ws { D with f2 := tick D.f2 } false k (ps.take i)).n * 256) ((Dsk.ws { D with f2 := tick D.f2 } false k (ps.take i)).n * 256), .map (some m), .int .i64 f0, .int .i64 ((Dsk.ws { D with f2 := tick D.f2 } false k (ps.take i)).f1), .int .i64 ((Dsk.ws { D with f2 := tick D.f2 } false k (ps.take i)).f2), .int .i64 ((Dsk.ws { D with f2 := tick D.f2 } false k (ps.take i)).f3), .bool ((Dsk.ws { D with f2 := tick D.f2 } false k (ps.take i)).cut), .int .i64 ((Dsk.ws { D with f2 := tick D.f2 } false k (ps.take i)).left)] 74 :: blk bd (bs.map u8) 5 :: mapB m (putM (es.map Ent.ie) ((k + i : Nat) : Int) v5 clk) (putC (es.map Ent.ie) ((k + i : Nat) : Int) clk) :: poolA hq2 :: blk b1 [.pointer (some ⟨pd, 0, none⟩)] 25 :: blk b2 [.int .i64 ((k + i : Nat) : Int)] 3 :: blk b3 [.bool false] 4 :: A :: (R ++ ([blk bs_ [.slice (some ⟨g, 0, none⟩) (ps.length * 256) cap] 70, blk bn_ [.int .i64 256] 3] ++ F))) w := H'
                clear H'
                obtain ⟨es2, hIn3, hpe, hrow⟩ := hcl v5 _ p hp256 hrd
                have H' := Sep.made 2 H hrow
                rw [hpe] at H'
                have H : Sep z (seps (es2.map Ent.row) :: blk b4 [.slice (some ⟨g, (0 + i * 256), none⟩) 256 256] 70 :: blk pd [.slice (some ⟨bd, 0, none⟩) ((Dsk.ws { D with f2 := tick D.f2 } false k (ps.take i)).n * 256) ((Dsk.ws { D with f2 := tick D.f2 } false k (ps.take i)).n * 256), .map (some m), .int .i64 f0, .int .i64 ((Dsk.ws { D with f2 := tick D.f2 } false k (ps.take i)).f1), .int .i64 ((Dsk.ws { D with f2 := tick D.f2 } false k (ps.take i)).f2), .int .i64 ((Dsk.ws { D with f2 := tick D.f2 } false k (ps.take i)).f3), .bool ((Dsk.ws { D with f2 := tick D.f2 } false k (ps.take i)).cut), .int .i64 ((Dsk.ws { D with f2 := tick D.f2 } false k (ps.take i)).left)] 74 :: blk bd (bs.map u8) 5 :: mapB m (es2.map Ent.ie) (putC (es.map Ent.ie) ((k + i : Nat) : Int) clk) :: poolA hq2 :: blk b1 [.pointer (some ⟨pd, 0, none⟩)] 25 :: blk b2 [.int .i64 ((k + i : Nat) : Int)] 3 :: blk b3 [.bool false] 4 :: A :: (R ++ ([blk bs_ [.slice (some ⟨g, 0, none⟩) (ps.length * 256) cap] 70, blk bn_ [.int .i64 256] 3] ++ F))) w := H'
                clear H'
                have H' := H.pick 10 [2, 3, 4, 5, 0, 1, 6, 7, 8, 9] rfl
                have H : Sep z (blk pd [.slice (some ⟨bd, 0, none⟩) ((Dsk.ws { D with f2 := tick D.f2 } false k (ps.take i)).n * 256) ((Dsk.ws { D with f2 := tick D.f2 } false k (ps.take i)).n * 256), .map (some m), .int .i64 f0, .int .i64 ((Dsk.ws { D with f2 := tick D.f2 } false k (ps.take i)).f1), .int .i64 ((Dsk.ws { D with f2 := tick D.f2 } false k (ps.take i)).f2), .int .i64 ((Dsk.ws { D with f2 := tick D.f2 } false k (ps.take i)).f3), .bool ((Dsk.ws { D with f2 := tick D.f2 } false k (ps.take i)).cut), .int .i64 ((Dsk.ws { D with f2 := tick D.f2 } false k (ps.take i)).left)] 74 :: blk bd (bs.map u8) 5 :: mapB m (es2.map Ent.ie) (putC (es.map Ent.ie) ((k + i : Nat) : Int) clk) :: poolA hq2 :: seps (es2.map Ent.row) :: blk b4 [.slice (some ⟨g, (0 + i * 256), none⟩) 256 256] 70 :: blk b1 [.pointer (some ⟨pd, 0, none⟩)] 25 :: blk b2 [.int .i64 ((k + i : Nat) : Int)] 3 :: blk b3 [.bool false] 4 :: A :: (R ++ ([blk bs_ [.slice (some ⟨g, 0, none⟩) (ps.length * 256) cap] 70, blk bn_ [.int .i64 256] 3] ++ F))) w := H'
                clear H'
                have e3 : Dsk.ws { D with f2 := tick D.f2 } false k (ps.take (i + 1)) = (Dsk.ws { D with f2 := tick D.f2 } false k (ps.take i)).w1 false (k + i) p := by rw [Dsk.ws_take hp]
                have H' := Sep.toDiskQ (D := (Dsk.ws { D with f2 := tick D.f2 } false k (ps.take i)).w1 false (k + i) p) (pd := pd) (bd := bd) (m := m) (f0 := f0) (bs := bs) (es := es2) (clk := putC (es.map Ent.ie) ((k + i : Nat) : Int) clk) (hq := hq2) (Γ := blk b4 [.slice (some ⟨g, (0 + i * 256), none⟩) 256 256] 70 :: blk b1 [.pointer (some ⟨pd, 0, none⟩)] 25 :: blk b2 [.int .i64 ((k + i : Nat) : Int)] 3 :: blk b3 [.bool false] 4 :: A :: (R ++ ([blk bs_ [.slice (some ⟨g, 0, none⟩) (ps.length * 256) cap] 70, blk bn_ [.int .i64 256] 3] ++ F))) H (hD2.w1 hp256) hIn3
                rw [← e3] at H'
                have H : Sep z (diskQ pd (Dsk.ws { D with f2 := tick D.f2 } false k (ps.take (i + 1))) hq2 :: blk b4 [.slice (some ⟨g, (0 + i * 256), none⟩) 256 256] 70 :: blk b1 [.pointer (some ⟨pd, 0, none⟩)] 25 :: blk b2 [.int .i64 ((k + i : Nat) : Int)] 3 :: blk b3 [.bool false] 4 :: A :: (R ++ ([blk bs_ [.slice (some ⟨g, 0, none⟩) (ps.length * 256) cap] 70, blk bn_ [.int .i64 256] 3] ++ F))) w := H'
                clear H'
                refine rs_region ?_
                refine s_do rfl rfl rfl (d_load rfl rfl (by kernel_rfl) (here (H.cel 3 rfl 0 rfl))) ?_
                refine s_do rfl rfl rfl (d_add64 rfl rfl rfl (r := ((k + (i + 1) : Nat) : Int)) (by omega) (by omega)) ?_
                refine s_put rfl rfl (n_store 3 H rfl rfl rfl rfl (vs := [.int .i64 ((k + (i + 1) : Nat) : Int)]) rfl (by simp [u8, u32, Value.oneCell']) (by kernel_rfl) (by simp) (out := [.int .i64 ((k + (i + 1) : Nat) : Int)]) rfl) ?_
                rintro w H'
                have H : Sep z (diskQ pd (Dsk.ws { D with f2 := tick D.f2 } false k (ps.take (i + 1))) hq2 :: blk b4 [.slice (some ⟨g, (0 + i * 256), none⟩) 256 256] 70 :: blk b1 [.pointer (some ⟨pd, 0, none⟩)] 25 :: blk b2 [.int .i64 ((k + (i + 1) : Nat) : Int)] 3 :: blk b3 [.bool false] 4 :: A :: (R ++ ([blk bs_ [.slice (some ⟨g, 0, none⟩) (ps.length * 256) cap] 70, blk bn_ [.int .i64 256] 3] ++ F))) w := H'
                clear H'
                refine s_end ?_
                have H' := H.pick 6 [2, 3, 4, 0, 5] rfl
                have H : Sep z (blk b1 [.pointer (some ⟨pd, 0, none⟩)] 25 :: blk b2 [.int .i64 ((k + (i + 1) : Nat) : Int)] 3 :: blk b3 [.bool false] 4 :: diskQ pd (Dsk.ws { D with f2 := tick D.f2 } false k (ps.take (i + 1))) hq2 :: A :: (R ++ ([blk bs_ [.slice (some ⟨g, 0, none⟩) (ps.length * 256) cap] 70, blk bn_ [.int .i64 256] 3] ++ F))) w := H'
                clear H'
                exact fun _ _ => H
            · -- behind it
              rintro D0 w H'
              rw [List.length_map, List.length_range] at H'
              have H : Sep z (bk D0 (.deferred (some [])) :: blk b1 [.pointer (some ⟨pd, 0, none⟩)] 25 :: blk b2 [.int .i64 ((k + ps.length : Nat) : Int)] 3 :: blk b3 [.bool fua] 4 :: diskQ pd (Dsk.ws { D with f2 := tick D.f2 } fua k (ps.take ps.length)) hq2 :: A :: (R ++ [blk bs_ [.slice (some ⟨g, 0, none⟩) (ps.length * 256) cap] 70, blk bn_ [.int .i64 256] 3])) w := H'
              clear H'
              obtain ⟨bd, m, f0, bs, es, clk, hD2, hIn2, H'⟩ := (H.pick 6 [4, 0, 1, 2, 3, 5] rfl).diskQ
              clear H
              have H : Sep z (blk pd [.slice (some ⟨bd, 0, none⟩) ((Dsk.ws { D with f2 := tick D.f2 } fua k (ps.take ps.length)).n * 256) ((Dsk.ws { D with f2 := tick D.f2 } fua k (ps.take ps.length)).n * 256), .map (some m), .int .i64 f0, .int .i64 ((Dsk.ws { D with f2 := tick D.f2 } fua k (ps.take ps.length)).f1), .int .i64 ((Dsk.ws { D with f2 := tick D.f2 } fua k (ps.take ps.length)).f2), .int .i64 ((Dsk.ws { D with f2 := tick D.f2 } fua k (ps.take ps.length)).f3), .bool ((Dsk.ws { D with f2 := tick D.f2 } fua k (ps.take ps.length)).cut), .int .i64 ((Dsk.ws { D with f2 := tick D.f2 } fua k (ps.take ps.length)).left)] 74 :: blk bd (bs.map u8) 5 :: mapB m (es.map Ent.ie) clk :: poolA hq2 :: seps (es.map Ent.row) :: bk D0 (.deferred (some [])) :: blk b1 [.pointer (some ⟨pd, 0, none⟩)] 25 :: blk b2 [.int .i64 ((k + ps.length : Nat) : Int)] 3 :: blk b3 [.bool fua] 4 :: A :: (R ++ [blk bs_ [.slice (some ⟨g, 0, none⟩) (ps.length * 256) cap] 70, blk bn_ [.int .i64 256] 3])) w := H'
              clear H'
              have hlf2 := hD2.left
              refine k_seq ?_
              refine t_region 9 (by kernel_rfl) (by kernel_rfl) (fun w' x' _ => ?_)
              have H' := H.ext0 x'; clear x' H; revert H'; generalize w' = w; intro H'
              have H : Sep z (blk pd [.slice (some ⟨bd, 0, none⟩) ((Dsk.ws { D with f2 := tick D.f2 } fua k (ps.take ps.length)).n * 256) ((Dsk.ws { D with f2 := tick D.f2 } fua k (ps.take ps.length)).n * 256), .map (some m), .int .i64 f0, .int .i64 ((Dsk.ws { D with f2 := tick D.f2 } fua k (ps.take ps.length)).f1), .int .i64 ((Dsk.ws { D with f2 := tick D.f2 } fua k (ps.take ps.length)).f2), .int .i64 ((Dsk.ws { D with f2 := tick D.f2 } fua k (ps.take ps.length)).f3), .bool ((Dsk.ws { D with f2 := tick D.f2 } fua k (ps.take ps.length)).cut), .int .i64 ((Dsk.ws { D with f2 := tick D.f2 } fua k (ps.take ps.length)).left)] 74 :: blk bd (bs.map u8) 5 :: mapB m (es.map Ent.ie) clk :: poolA hq2 :: seps (es.map Ent.row) :: bk D0 (.deferred (some [])) :: blk b1 [.pointer (some ⟨pd, 0, none⟩)] 25 :: blk b2 [.int .i64 ((k + ps.length : Nat) : Int)] 3 :: blk b3 [.bool fua] 4 :: A :: (R ++ [blk bs_ [.slice (some ⟨g, 0, none⟩) (ps.length * 256) cap] 70, blk bn_ [.int .i64 256] 3])) w := H'
              clear H'
              refine t_do rfl rfl rfl (d_load rfl rfl (by kernel_rfl) (here (H.cel 6 rfl 0 rfl))) ?_
              refine t_do rfl rfl rfl (d_load rfl rfl (by kernel_rfl) (here (H.cel 6 rfl 0 rfl))) ?_
              refine t_do rfl rfl rfl (d_nilCheck rfl rfl) ?_
              refine t_do rfl rfl rfl (d_field rfl (k := 7) (r := 7) (by kernel_rfl) rfl rfl) ?_
              refine t_do rfl rfl rfl (d_load rfl rfl (by kernel_rfl) (here (H.cel 0 rfl 7 rfl))) ?_
              refine t_do rfl rfl rfl (d_sub64 rfl rfl rfl (r := ((Dsk.ws { D with f2 := tick D.f2 } fua k (ps.take ps.length)).left) - 1) (by omega) (by omega)) ?_
              refine t_do rfl rfl rfl (d_max rfl rfl rfl) ?_
              refine t_do rfl rfl rfl (d_nilCheck rfl rfl) ?_
              refine t_do rfl rfl rfl (d_field rfl (k := 7) (r := 7) (by kernel_rfl) rfl rfl) ?_
              refine t_end ?_
              refine s_put rfl rfl (n_store 0 H rfl rfl rfl rfl (vs := [.int .i64 (max (0 : Int) (((Dsk.ws { D with f2 := tick D.f2 } fua k (ps.take ps.length)).left) - 1))]) rfl (by simp [u8, u32, Value.oneCell']) (by kernel_rfl) (by simp) (out := [.slice (some ⟨bd, 0, none⟩) ((Dsk.ws { D with f2 := tick D.f2 } fua k (ps.take ps.length)).n * 256) ((Dsk.ws { D with f2 := tick D.f2 } fua k (ps.take ps.length)).n * 256), .map (some m), .int .i64 f0, .int .i64 ((Dsk.ws { D with f2 := tick D.f2 } fua k (ps.take ps.length)).f1), .int .i64 ((Dsk.ws { D with f2 := tick D.f2 } fua k (ps.take ps.length)).f2), .int .i64 ((Dsk.ws { D with f2 := tick D.f2 } fua k (ps.take ps.length)).f3), .bool ((Dsk.ws { D with f2 := tick D.f2 } fua k (ps.take ps.length)).cut), .int .i64 (max (0 : Int) (((Dsk.ws { D with f2 := tick D.f2 } fua k (ps.take ps.length)).left) - 1))]) rfl) ?_
              rintro w H'
              have H : Sep z (blk pd [.slice (some ⟨bd, 0, none⟩) ((Dsk.ws { D with f2 := tick D.f2 } fua k (ps.take ps.length)).n * 256) ((Dsk.ws { D with f2 := tick D.f2 } fua k (ps.take ps.length)).n * 256), .map (some m), .int .i64 f0, .int .i64 ((Dsk.ws { D with f2 := tick D.f2 } fua k (ps.take ps.length)).f1), .int .i64 ((Dsk.ws { D with f2 := tick D.f2 } fua k (ps.take ps.length)).f2), .int .i64 ((Dsk.ws { D with f2 := tick D.f2 } fua k (ps.take ps.length)).f3), .bool ((Dsk.ws { D with f2 := tick D.f2 } fua k (ps.take ps.length)).cut), .int .i64 (max (0 : Int) (((Dsk.ws { D with f2 := tick D.f2 } fua k (ps.take ps.length)).left) - 1))] 74 :: blk bd (bs.map u8) 5 :: mapB m (es.map Ent.ie) clk :: poolA hq2 :: seps (es.map Ent.row) :: bk D0 (.deferred (some [])) :: blk b1 [.pointer (some ⟨pd, 0, none⟩)] 25 :: blk b2 [.int .i64 ((k + ps.length : Nat) : Int)] 3 :: blk b3 [.bool fua] 4 :: A :: (R ++ [blk bs_ [.slice (some ⟨g, 0, none⟩) (ps.length * 256) cap] 70, blk bn_ [.int .i64 256] 3])) w := H'
              clear H'
              refine s_end ?_
              refine k_seq ?_
              refine s_region ?_
              refine s_do rfl rfl rfl (d_assign rfl rfl) ?_
              refine s_end ?_
              refine k_ret ?_
              have H' := H.pick 10 [5, 0, 1, 2, 3, 4, 6, 7, 8, 9] rfl
              have H : Sep z (bk D0 (.deferred (some [])) :: blk pd [.slice (some ⟨bd, 0, none⟩) ((Dsk.ws { D with f2 := tick D.f2 } fua k (ps.take ps.length)).n * 256) ((Dsk.ws { D with f2 := tick D.f2 } fua k (ps.take ps.length)).n * 256), .map (some m), .int .i64 f0, .int .i64 ((Dsk.ws { D with f2 := tick D.f2 } fua k (ps.take ps.length)).f1), .int .i64 ((Dsk.ws { D with f2 := tick D.f2 } fua k (ps.take ps.length)).f2), .int .i64 ((Dsk.ws { D with f2 := tick D.f2 } fua k (ps.take ps.length)).f3), .bool ((Dsk.ws { D with f2 := tick D.f2 } fua k (ps.take ps.length)).cut), .int .i64 (max (0 : Int) (((Dsk.ws { D with f2 := tick D.f2 } fua k (ps.take ps.length)).left) - 1))] 74 :: blk bd (bs.map u8) 5 :: mapB m (es.map Ent.ie) clk :: poolA hq2 :: seps (es.map Ent.row) :: blk b1 [.pointer (some ⟨pd, 0, none⟩)] 25 :: blk b2 [.int .i64 ((k + ps.length : Nat) : Int)] 3 :: blk b3 [.bool fua] 4 :: A :: (R ++ [blk bs_ [.slice (some ⟨g, 0, none⟩) (ps.length * 256) cap] 70, blk bn_ [.int .i64 256] 3])) w := H'
              clear H'
              refine doneM1 H (rs := [.tmp 8]) rfl [.int .i64 0] (fun _ => ⟨rfl, trivial⟩) (v := .int .i64 0) rfl (fun w H' => ?_)
              clear H
              have H : Sep z (blk pd [.slice (some ⟨bd, 0, none⟩) ((Dsk.ws { D with f2 := tick D.f2 } fua k (ps.take ps.length)).n * 256) ((Dsk.ws { D with f2 := tick D.f2 } fua k (ps.take ps.length)).n * 256), .map (some m), .int .i64 f0, .int .i64 ((Dsk.ws { D with f2 := tick D.f2 } fua k (ps.take ps.length)).f1), .int .i64 ((Dsk.ws { D with f2 := tick D.f2 } fua k (ps.take ps.length)).f2), .int .i64 ((Dsk.ws { D with f2 := tick D.f2 } fua k (ps.take ps.length)).f3), .bool ((Dsk.ws { D with f2 := tick D.f2 } fua k (ps.take ps.length)).cut), .int .i64 (max (0 : Int) (((Dsk.ws { D with f2 := tick D.f2 } fua k (ps.take ps.length)).left) - 1))] 74 :: blk bd (bs.map u8) 5 :: mapB m (es.map Ent.ie) clk :: poolA hq2 :: seps (es.map Ent.row) :: blk b1 [.pointer (some ⟨pd, 0, none⟩)] 25 :: blk b2 [.int .i64 ((k + ps.length : Nat) : Int)] 3 :: blk b3 [.bool fua] 4 :: A :: (R ++ [blk bs_ [.slice (some ⟨g, 0, none⟩) (ps.length * 256) cap] 70, blk bn_ [.int .i64 256] 3])) w := H'
              clear H'
              have hlw := (hwsf ps.length).2.2.2.2
              have H' := Sep.toDisk (D := { Dsk.ws { D with f2 := tick D.f2 } fua k (ps.take ps.length) with left := max (0 : Int) ((Dsk.ws { D with f2 := tick D.f2 } fua k (ps.take ps.length)).left - 1) }) (pd := pd) (bd := bd) (m := m) (f0 := f0) (bs := bs) (es := es) (clk := clk) (hq := hq2) (Γ := blk b1 [.pointer (some ⟨pd, 0, none⟩)] 25 :: blk b2 [.int .i64 ((k + ps.length : Nat) : Int)] 3 :: blk b3 [.bool fua] 4 :: A :: (R ++ [blk bs_ [.slice (some ⟨g, 0, none⟩) (ps.length * 256) cap] 70, blk bn_ [.int .i64 256] 3])) H (hD2.f hD2.f1 hD2.f2 hD2.f3 (by omega)) (hIn2.f _ _ _ _ _)
              have H : Sep z (diskA pd ({ Dsk.ws { D with f2 := tick D.f2 } fua k (ps.take ps.length) with left := max (0 : Int) ((Dsk.ws { D with f2 := tick D.f2 } fua k (ps.take ps.length)).left - 1) }) :: blk b1 [.pointer (some ⟨pd, 0, none⟩)] 25 :: blk b2 [.int .i64 ((k + ps.length : Nat) : Int)] 3 :: blk b3 [.bool fua] 4 :: A :: (R ++ [blk bs_ [.slice (some ⟨g, 0, none⟩) (ps.length * 256) cap] 70, blk bn_ [.int .i64 256] 3])) w := H'
              clear H'
              have H' := Sep.front (As := diskA pd { Dsk.ws { D with f2 := tick D.f2 } fua k (ps.take ps.length) with left := max (0 : Int) ((Dsk.ws { D with f2 := tick D.f2 } fua k (ps.take ps.length)).left - 1) } :: A :: R) (Bs := [blk bs_ [.slice (some ⟨g, 0, none⟩) (ps.length * 256) cap] 70, blk bn_ [.int .i64 256] 3]) (H.pick 5 [0, 4] rfl)
              exact ⟨[diskA pd { Dsk.ws { D with f2 := tick D.f2 } fua k (ps.take ps.length) with left := max (0 : Int) ((Dsk.ws { D with f2 := tick D.f2 } fua k (ps.take ps.length)).left - 1) }, A], .inr (.inr ⟨by omega, by simp_all, by rw [List.take_length, hlw] at *; exact ⟨rfl, rfl⟩⟩), H'⟩
end Go.Proofs.YtanejicgmgpjcaaGreatDoor
