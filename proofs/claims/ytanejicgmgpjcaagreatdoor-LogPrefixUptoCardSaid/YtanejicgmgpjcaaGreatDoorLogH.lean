/-
  Walks: codec, readers and writers. No condition.
-/
import Derived.Test.YtanejicgmgpjcaaGreatDoorLogG
set_option maxRecDepth 100000
namespace Go.Proofs.YtanejicgmgpjcaaGreatDoor
open Go.RowKit
theorem text_c (pw a : Nat) (s bs : List UInt8) (hb : bs.length = 256) (hk : a + s.length ≤ 256 ∧ a < 256) : Cn Tryz.prog 48 [.pointer (some ⟨pw, 0, none⟩), str s] [blk pw (wrC bs (a : Int)) 118] (fun v Γ => v = .tuple #[] ∧ Γ = [blk pw (wrC (wrAll bs s a) ((a + s.length : Nat) : Int)) 118]) := by
  intro z R w H'
  have H : Sep z (blk pw (wrC bs (a : Int)) 118 :: R) w := H'
  clear H'
  refine enter Tryz.func48 rfl 21 Tryz.ntmps48 rfl ?_
  refine l_region (Sep z (wrH pw (a : Int) :: R)) 18 rfl (by kernel_rfl) (fun w' x' _ => ?_)
  have H' := H.ext0 x'; clear x' H; revert H'; generalize w' = w; intro H'
  have H : Sep z (blk pw (wrC bs (a : Int)) 118 :: R) w := H'
  clear H'
  refine l_do 0 (by kernel_rfl) rfl rfl (by kernel_rfl) (by kernel_rfl) (by kernel_rfl) rfl rfl rfl (d_move rfl rfl) (H.mono 0 (B := wrH pw (a : Int)) rfl (fun h q => ⟨_, hb, q⟩)) ?_
  refine l_do 1 (by kernel_rfl) rfl rfl (by kernel_rfl) (by kernel_rfl) (by kernel_rfl) rfl rfl rfl (d_nilCheck rfl rfl) (H.mono 0 (B := wrH pw (a : Int)) rfl (fun h q => ⟨_, hb, q⟩)) ?_
  refine l_do 2 (by kernel_rfl) rfl rfl (by kernel_rfl) (by kernel_rfl) (by kernel_rfl) rfl rfl rfl (d_field rfl (k := 256) (r := 256) (by kernel_rfl) rfl rfl) (H.mono 0 (B := wrH pw (a : Int)) rfl (fun h q => ⟨_, hb, q⟩)) ?_
  refine l_do 3 (by kernel_rfl) rfl rfl (by kernel_rfl) (by kernel_rfl) (by kernel_rfl) rfl rfl rfl (d_load rfl rfl (by kernel_rfl) (fun _ hx => hx.cell 0 rfl (fun h q => wrH.at q))) (H.mono 0 (B := wrH pw (a : Int)) rfl (fun h q => ⟨_, hb, q⟩)) ?_
  refine l_do 4 (by kernel_rfl) rfl rfl (by kernel_rfl) (by kernel_rfl) (by kernel_rfl) rfl rfl rfl (d_move rfl rfl) (H.mono 0 (B := wrH pw (a : Int)) rfl (fun h q => ⟨_, hb, q⟩)) ?_
  refine l_do 5 (by kernel_rfl) rfl rfl (by kernel_rfl) (by kernel_rfl) (by kernel_rfl) rfl rfl rfl (d_nilCheck rfl rfl) (H.mono 0 (B := wrH pw (a : Int)) rfl (fun h q => ⟨_, hb, q⟩)) ?_
  refine l_do 6 (by kernel_rfl) rfl rfl (by kernel_rfl) (by kernel_rfl) (by kernel_rfl) rfl rfl rfl (d_field rfl (k := 0) (r := 0) (by kernel_rfl) rfl rfl) (H.mono 0 (B := wrH pw (a : Int)) rfl (fun h q => ⟨_, hb, q⟩)) ?_
  refine l_do 7 (by kernel_rfl) rfl rfl (by kernel_rfl) (by kernel_rfl) (by kernel_rfl) rfl rfl rfl (d_move rfl rfl) (H.mono 0 (B := wrH pw (a : Int)) rfl (fun h q => ⟨_, hb, q⟩)) ?_
  refine l_do 8 (by kernel_rfl) rfl rfl (by kernel_rfl) (by kernel_rfl) (by kernel_rfl) rfl rfl rfl (d_nilCheck rfl rfl) (H.mono 0 (B := wrH pw (a : Int)) rfl (fun h q => ⟨_, hb, q⟩)) ?_
  refine l_do 9 (by kernel_rfl) rfl rfl (by kernel_rfl) (by kernel_rfl) (by kernel_rfl) rfl rfl rfl (d_field rfl (k := 256) (r := 256) (by kernel_rfl) rfl rfl) (H.mono 0 (B := wrH pw (a : Int)) rfl (fun h q => ⟨_, hb, q⟩)) ?_
  refine l_do 10 (by kernel_rfl) rfl rfl (by kernel_rfl) (by kernel_rfl) (by kernel_rfl) rfl rfl rfl (d_load rfl rfl (by kernel_rfl) (fun _ hx => hx.cell 0 rfl (fun h q => wrH.at q))) (H.mono 0 (B := wrH pw (a : Int)) rfl (fun h q => ⟨_, hb, q⟩)) ?_
  refine l_do 11 (by kernel_rfl) rfl rfl (by kernel_rfl) (by kernel_rfl) (by kernel_rfl) rfl rfl rfl (d_sliceR rfl (n' := 256) (z := 1) (p := a) (q := 256) (o' := a) (l' := 256 - a) (c' := 256 - a) (by kernel_rfl) rfl (.inr ⟨_, _, _, rfl, rfl, rfl⟩) (.inl ⟨rfl, rfl⟩) (by omega) (by omega) (by omega) (by omega) (by omega) (by omega)) (H.mono 0 (B := wrH pw (a : Int)) rfl (fun h q => ⟨_, hb, q⟩)) ?_
  refine l_do 12 (by kernel_rfl) rfl rfl (by kernel_rfl) (by kernel_rfl) (by kernel_rfl) rfl rfl rfl (d_move rfl rfl) (H.mono 0 (B := wrH pw (a : Int)) rfl (fun h q => ⟨_, hb, q⟩)) ?_
  refine l_all [13] (by kernel_rfl) (by simp) ?_
  refine all1 ?_
  refine o_go rfl rfl rfl rfl (n_copy 0 H rfl rfl (by kernel_rfl) rfl rfl (m := s.length) (news := (s.map u8)) (.inr ⟨s, rfl, rfl, rfl⟩) (by simp [u8, Value.oneCell']) (by rw [wrC_len _ hb]; omega) (k := s.length) (by omega) (out := (wrC (wrAll bs s a) (a : Int))) (wrC_copy _ (by omega) rfl)) ?_
  rintro _ w ⟨rfl, H'⟩
  have H : Sep z (blk pw (wrC (wrAll bs s a) (a : Int)) 118 :: R) w := H'
  clear H'
  refine l_and (fun _ => (H.mono 0 (B := wrH pw (a : Int)) rfl (fun h q => ⟨_, ((wrAll_len (by omega)).trans hb), q⟩))) ?_
  refine l_do 14 (by kernel_rfl) rfl rfl (by kernel_rfl) (by kernel_rfl) (by kernel_rfl) rfl rfl rfl (d_add64 rfl rfl rfl (r := ((a + s.length : Nat) : Int)) (by omega) (by omega)) (H.mono 0 (B := wrH pw (a : Int)) rfl (fun h q => ⟨_, ((wrAll_len (by omega)).trans hb), q⟩)) ?_
  refine l_do 15 (by kernel_rfl) rfl rfl (by kernel_rfl) (by kernel_rfl) (by kernel_rfl) rfl rfl rfl (d_nilCheck rfl rfl) (H.mono 0 (B := wrH pw (a : Int)) rfl (fun h q => ⟨_, ((wrAll_len (by omega)).trans hb), q⟩)) ?_
  refine l_do 16 (by kernel_rfl) rfl rfl (by kernel_rfl) (by kernel_rfl) (by kernel_rfl) rfl rfl rfl (d_field rfl (k := 256) (r := 256) (by kernel_rfl) rfl rfl) (H.mono 0 (B := wrH pw (a : Int)) rfl (fun h q => ⟨_, ((wrAll_len (by omega)).trans hb), q⟩)) ?_
  refine l_all [17] (by kernel_rfl) (by simp) ?_
  refine all1 ?_
  refine o_put rfl rfl rfl (n_store 0 H rfl rfl rfl rfl (vs := [.int .i64 ((a + s.length : Nat) : Int)]) rfl (by simp [u8, u32, Value.oneCell']) (by kernel_rfl) (by rw [wrC_len _ ((wrAll_len (by omega)).trans hb)]; simp) (out := (wrC (wrAll bs s a) ((a + s.length : Nat) : Int))) (wrC_set _ _ ((wrAll_len (by omega)).trans hb))) ?_
  rintro w H'
  have H : Sep z (blk pw (wrC (wrAll bs s a) ((a + s.length : Nat) : Int)) 118 :: R) w := H'
  clear H'
  refine l_and (fun h => absurd rfl h) ?_
  refine l_done (by kernel_rfl) ?_
  refine doneL rfl [] trivial (v := .tuple #[]) rfl ?_
  exact ⟨[blk pw (wrC (wrAll bs s a) ((a + s.length : Nat) : Int)) 118], ⟨rfl, rfl⟩, H⟩

theorem framed_c (pw pt : Nat) (a : Int) (bs : List UInt8) (hb : bs.length = 256) : Cn Tryz.prog 50 [.pointer (some ⟨pw, 0, none⟩), .pointer (some ⟨pt, 0, none⟩)] [blk pw (wrC bs (a : Int)) 118, tblA pt] (fun v Γ => v = .slice (some ⟨pw, 0, none⟩) 256 256 ∧ Γ = [blk pw (wrC (frm bs) (a : Int)) 118, tblA pt]) := by
  intro z R w H'
  have H : Sep z (blk pw (wrC bs (a : Int)) 118 :: tblA pt :: R) w := H'
  clear H'
  refine enter Tryz.func50 rfl 22 Tryz.ntmps50 rfl ?_
  refine k_seq ?_
  refine s_region ?_
  refine s_do rfl rfl rfl (d_assign rfl rfl) ?_
  refine s_end ?_
  refine k_seq ?_
  refine s_region ?_
  refine s_do rfl rfl rfl (d_move rfl rfl) ?_
  refine s_do rfl rfl rfl (d_move rfl rfl) ?_
  refine s_do rfl rfl rfl (d_nilCheck rfl rfl) ?_
  refine s_do rfl rfl rfl (d_field rfl (k := 0) (r := 0) (by kernel_rfl) rfl rfl) ?_
  refine s_do rfl rfl rfl (d_sliceR rfl (n' := 256) (z := 1) (p := 0) (q := 252) (o' := 0) (l' := 252) (c' := 256) (by kernel_rfl) rfl (.inl ⟨rfl, rfl⟩) (.inr ⟨_, _, _, rfl, rfl, rfl⟩) (by omega) (by omega) (by omega) (by omega) (by omega) (by omega)) ?_
  refine s_callC rfl rfl rfl rfl rfl (fun w => Tryz.call61 _ w) (csum_c _ _ _ (bs.take 252) (by simp [hb]) _ (fun h q => wrC_rd q hb (by omega) (by omega) (by omega) (by simp))) H 2 [1, 0] rfl rfl ?_
  rintro _ w _ ⟨rfl, rfl⟩ H'
  have H : Sep z (tblA pt :: blk pw (wrC bs (a : Int)) 118 :: R) w := H'
  clear H'
  refine s_go rfl rfl rfl (n_alloc (P := Tryz.prog) H rfl (zs := [u8 0, u8 0, u8 0, u8 0]) (by kernel_rfl)) ?_
  rintro _ w ⟨b1, rfl, H'⟩
  have H : Sep z (blk b1 [u8 0, u8 0, u8 0, u8 0] 134 :: tblA pt :: blk pw (wrC bs (a : Int)) 118 :: R) w := H'
  clear H'
  refine s_put rfl rfl (n_store 0 H rfl rfl rfl rfl (vs := [u8 ((crcSum (bs.take 252)).toUInt8), u8 (((crcSum (bs.take 252)) >>> 8).toUInt8), u8 (((crcSum (bs.take 252)) >>> 16).toUInt8), u8 (((crcSum (bs.take 252)) >>> 24).toUInt8)]) rfl (by simp [u8, u32, Value.oneCell']) (by kernel_rfl) (by simp) (out := [u8 ((crcSum (bs.take 252)).toUInt8), u8 (((crcSum (bs.take 252)) >>> 8).toUInt8), u8 (((crcSum (bs.take 252)) >>> 16).toUInt8), u8 (((crcSum (bs.take 252)) >>> 24).toUInt8)]) rfl) ?_
  rintro w H'
  have H : Sep z (blk b1 [u8 ((crcSum (bs.take 252)).toUInt8), u8 (((crcSum (bs.take 252)) >>> 8).toUInt8), u8 (((crcSum (bs.take 252)) >>> 16).toUInt8), u8 (((crcSum (bs.take 252)) >>> 24).toUInt8)] 134 :: tblA pt :: blk pw (wrC bs (a : Int)) 118 :: R) w := H'
  clear H'
  refine s_end ?_
  refine k_seq ?_
  refine t_region 5 (by kernel_rfl) (by kernel_rfl) (fun w' x' _ => ?_)
  have H' := H.ext0 x'; clear x' H; revert H'; generalize w' = w; intro H'
  have H : Sep z (blk b1 [u8 ((crcSum (bs.take 252)).toUInt8), u8 (((crcSum (bs.take 252)) >>> 8).toUInt8), u8 (((crcSum (bs.take 252)) >>> 16).toUInt8), u8 (((crcSum (bs.take 252)) >>> 24).toUInt8)] 134 :: tblA pt :: blk pw (wrC bs (a : Int)) 118 :: R) w := H'
  clear H'
  refine t_do rfl rfl rfl (d_move rfl rfl) ?_
  refine t_do rfl rfl rfl (d_nilCheck rfl rfl) ?_
  refine t_do rfl rfl rfl (d_field rfl (k := 0) (r := 0) (by kernel_rfl) rfl rfl) ?_
  refine t_do rfl rfl rfl (d_sliceR rfl (n' := 256) (z := 1) (p := 252) (q := 256) (o' := 252) (l' := 4) (c' := 4) (by kernel_rfl) rfl (.inr ⟨_, _, _, rfl, rfl, rfl⟩) (.inl ⟨rfl, rfl⟩) (by omega) (by omega) (by omega) (by omega) (by omega) (by omega)) ?_
  refine t_do rfl rfl rfl (d_sliceR rfl (n' := 4) (z := 1) (p := 0) (q := 4) (o' := 0) (l' := 4) (c' := 4) (by kernel_rfl) rfl (.inl ⟨rfl, rfl⟩) (.inl ⟨rfl, rfl⟩) (by omega) (by omega) (by omega) (by omega) (by omega) (by omega)) ?_
  refine t_end ?_
  refine s_go rfl rfl rfl (n_copy 2 H rfl rfl (by kernel_rfl) rfl rfl (m := 4) (news := ((sumB (crcSum (bs.take 252))).map u8)) (.inl (H.rd 0 rfl (fun h q => q.rd (by omega) (by omega) (by simp) rfl))) (by simp [sumB, u8, Value.oneCell']) (by rw [wrC_len _ hb]; omega) (k := 4) (by omega) (out := (wrC (frm bs) (a : Int))) (wrC_copy _ (by simp [sumB, hb]) rfl)) ?_
  rintro _ w ⟨rfl, H'⟩
  have H : Sep z (blk b1 [u8 ((crcSum (bs.take 252)).toUInt8), u8 (((crcSum (bs.take 252)) >>> 8).toUInt8), u8 (((crcSum (bs.take 252)) >>> 16).toUInt8), u8 (((crcSum (bs.take 252)) >>> 24).toUInt8)] 134 :: tblA pt :: blk pw (wrC (frm bs) (a : Int)) 118 :: R) w := H'
  clear H'
  refine s_end ?_
  refine k_seq ?_
  refine s_region ?_
  refine s_do rfl rfl rfl (d_move rfl rfl) ?_
  refine s_do rfl rfl rfl (d_nilCheck rfl rfl) ?_
  refine s_do rfl rfl rfl (d_field rfl (k := 0) (r := 0) (by kernel_rfl) rfl rfl) ?_
  refine s_do rfl rfl rfl (d_sliceR rfl (n' := 256) (z := 1) (p := 0) (q := 256) (o' := 0) (l' := 256) (c' := 256) (by kernel_rfl) rfl (.inl ⟨rfl, rfl⟩) (.inl ⟨rfl, rfl⟩) (by omega) (by omega) (by omega) (by omega) (by omega) (by omega)) ?_
  refine s_do rfl rfl rfl (d_assign rfl rfl) ?_
  refine s_end ?_
  refine k_ret ?_
  refine doneL rfl [.slice (some ⟨pw, 0, none⟩) 256 256] ⟨rfl, trivial⟩ (v := .slice (some ⟨pw, 0, none⟩) 256 256) rfl ?_
  exact ⟨[blk pw (wrC (frm bs) (a : Int)) 118, tblA pt], ⟨rfl, rfl⟩, H.perm 3 [2, 1] rfl rfl⟩

theorem get_c (k : Nat) (pr b o n c : Nat) (xs : List UInt8) (A : Asn) (hA : ∀ h, A h → rdH 1 (.slice (some ⟨b, o, none⟩) n c) n (xs.map u8) h) (hn : n < c) (hk : k ≤ n) (ys : List UInt8) (hy : xs.take k = ys) (o2 n2 c2 : Nat) (h1 : o + k = o2) (h2 : n - k = n2) (h3 : c - k = c2) : Cn Tryz.prog 57 [.pointer (some ⟨pr, 0, none⟩), .int .i64 (k : Int)] [blk pr [.slice (some ⟨b, o, none⟩) n c] 129, A] (fun v Γ => v = .int .i64 (getI ys) ∧ Γ = [blk pr [.slice (some ⟨b, o2, none⟩) n2 c2] 129, A]) := by
  intro z R w H'
  have H : Sep z (blk pr [.slice (some ⟨b, o, none⟩) n c] 129 :: A :: R) w := H'
  clear H'
  subst hy h1 h2 h3
  have hxl := H.says 1 rfl (fun h q => (hA h q).len)
  have hcb := H.says 1 rfl (fun h q => (hA h q).cap)
  refine enter Tryz.func57 rfl 35 Tryz.ntmps57 rfl ?_
  refine k_seq ?_
  refine s_region ?_
  refine s_do rfl rfl rfl (d_assign rfl rfl) ?_
  refine s_end ?_
  refine k_seq ?_
  refine s_region ?_
  refine s_do rfl rfl rfl (d_assign rfl rfl) ?_
  refine s_end ?_
  refine k_seq ?_
  refine k_seq ?_
  refine s_region ?_
  refine s_do rfl rfl rfl (d_move rfl rfl) ?_
  refine s_do rfl rfl rfl (d_nilCheck rfl rfl) ?_
  refine s_do rfl rfl rfl (d_field rfl (k := 0) (r := 0) (by kernel_rfl) rfl rfl) ?_
  refine s_do rfl rfl rfl (d_load rfl rfl (by kernel_rfl) (here (H.cel 0 rfl 0 rfl))) ?_
  refine s_do rfl rfl rfl (d_move rfl rfl) ?_
  refine s_do rfl rfl rfl (d_sliceC rfl (z := 1) (p := 0) (q := k) (o' := o) (l' := k) (c' := c) (by kernel_rfl) rfl (.inl ⟨rfl, rfl⟩) (.inr ⟨_, _, _, rfl, rfl, rfl⟩) (by omega) (by omega) (by omega) (by omega) (by omega) (by omega)) ?_
  refine s_do rfl rfl rfl (d_len rfl (z := 1) (by kernel_rfl) rfl) ?_
  refine s_do rfl rfl rfl (d_move rfl rfl) ?_
  refine s_end ?_
  refine k_block ?_
  refine c_loop (σ := Nat) (fun j => [(15, .int .i64 (j : Int)), (5, .int .i64 (getI (xs.take j))), (0, .pointer (some ⟨pr, 0, none⟩)), (1, .int .i64 (k : Int)), (4, .int .i64 0), (13, .slice (some ⟨b, o, none⟩) k c), (14, .int .i64 (k : Int))])
    (fun j w => Sep z (blk pr [.slice (some ⟨b, o, none⟩) n c] 129 :: A :: R) w ∧ (j ≤ k)) (fun j => k - j) 0
    (fun _ hF => (hF.cons (hF.cons (hF.cons (hF.cons (hF.cons (hF.cons (hF.cons hF.nil 14 _ _ rfl rfl) 13 _ _ rfl rfl) 4 _ _ rfl rfl) 1 _ _ rfl rfl) 0 _ _ rfl rfl) 5 _ _ rfl (by go_num)) 15 _ _ rfl (by go_num))) ⟨H, by omega⟩ ?_
  clear H; rintro j w ⟨H', hI⟩
  have H : Sep z (blk pr [.slice (some ⟨b, o, none⟩) n c] 129 :: A :: R) w := H'
  clear H'
  have hjk := hI; clear hI
  refine k_seq ?_
  refine s_region ?_
  refine s_do rfl rfl rfl (d_lss rfl rfl rfl) ?_
  refine s_end ?_
  refine k_seq ?_
  refine k_dec rfl (fun h1 => ?_) (fun h1 => ?_)
  · -- yes: (j : Int) < (k : Int)
    obtain ⟨x, hx⟩ : ∃ x, xs[j]? = some x := ⟨_, List.getElem?_eq_getElem (by omega)⟩
    refine k_skip ?_
    refine k_seq ?_
    refine k_block ?_
    refine k_seq ?_
    refine s_region ?_
    refine s_do rfl rfl rfl (d_index rfl (z := 1) (j := j) (r := o + j) (by kernel_rfl) rfl rfl rfl (by omega) (by omega)) ?_
    refine s_do rfl rfl rfl (d_load rfl rfl (by kernel_rfl) (here (H.cell 1 rfl (fun h q => (hA h q).at hx)))) ?_
    refine s_do rfl rfl rfl (d_assign rfl rfl) ?_
    refine s_end ?_
    refine s_region ?_
    refine s_do rfl rfl rfl (d_move rfl rfl) ?_
    refine s_do rfl rfl rfl (d_shlI rfl rfl rfl (m := 8) rfl (by decide)) ?_
    refine s_do rfl rfl rfl (d_move rfl rfl) ?_
    refine s_do rfl rfl rfl (d_of8 rfl (by kernel_rfl) rfl) ?_
    refine s_do rfl rfl rfl (d_orI rfl rfl rfl (getI_low _) ⟨by omega, by have := x.toNat_lt; omega⟩) ?_
    refine s_do rfl rfl rfl (d_assign rfl rfl) ?_
    refine s_end ?_
    refine s_region ?_
    refine s_do rfl rfl rfl (d_add64 rfl rfl rfl (r := (j : Int) + 1) (by omega) (by omega)) ?_
    refine s_do rfl rfl rfl (d_move rfl rfl) ?_
    refine s_end ?_
    intro _ hF
    refine ⟨(j + 1), (hF.cons (hF.cons (hF.cons (hF.cons (hF.cons (hF.cons (hF.cons hF.nil 14 _ _ rfl rfl) 13 _ _ rfl rfl) 4 _ _ rfl rfl) 1 _ _ rfl rfl) 0 _ _ rfl rfl) 5 _ _ rfl (congrArg (Value.int .i64) (getI_step hx))) 15 _ _ rfl (by go_num)), ⟨H, ?_⟩, ?_⟩
    · omega
    · omega
  · -- no: (j : Int) < (k : Int)
    obtain rfl : j = k := by omega
    refine k_exit ?_
    refine k_here ?_
    refine k_seq ?_
    refine s_region ?_
    refine s_do rfl rfl rfl (d_move rfl rfl) ?_
    refine s_do rfl rfl rfl (d_move rfl rfl) ?_
    refine s_do rfl rfl rfl (d_nilCheck rfl rfl) ?_
    refine s_do rfl rfl rfl (d_field rfl (k := 0) (r := 0) (by kernel_rfl) rfl rfl) ?_
    refine s_do rfl rfl rfl (d_load rfl rfl (by kernel_rfl) (here (H.cel 0 rfl 0 rfl))) ?_
    refine s_do rfl rfl rfl (d_move rfl rfl) ?_
    refine s_do rfl rfl rfl (d_sliceC rfl (z := 1) (p := j) (q := n) (o' := o + j) (l' := n - j) (c' := c - j) (by kernel_rfl) rfl (.inr ⟨_, _, _, rfl, rfl, rfl⟩) (.inl ⟨rfl, rfl⟩) (by omega) (by omega) (by omega) (by omega) (by omega) (by omega)) ?_
    refine s_do rfl rfl rfl (d_nilCheck rfl rfl) ?_
    refine s_do rfl rfl rfl (d_field rfl (k := 0) (r := 0) (by kernel_rfl) rfl rfl) ?_
    refine s_put rfl rfl (n_store 0 H rfl rfl rfl rfl (vs := [.slice (some ⟨b, (o + j), none⟩) (n - j) (c - j)]) rfl (by simp [u8, u32, Value.oneCell']) (by kernel_rfl) (by simp) (out := [.slice (some ⟨b, (o + j), none⟩) (n - j) (c - j)]) rfl) ?_
    rintro w H'
    have H : Sep z (blk pr [.slice (some ⟨b, (o + j), none⟩) (n - j) (c - j)] 129 :: A :: R) w := H'
    clear H'
    refine s_end ?_
    refine k_seq ?_
    refine s_region ?_
    refine s_do rfl rfl rfl (d_move rfl rfl) ?_
    refine s_do rfl rfl rfl (d_assign rfl rfl) ?_
    refine s_end ?_
    refine k_ret ?_
    refine doneL rfl [.int .i64 (getI (xs.take j))] ⟨rfl, trivial⟩ (v := .int .i64 (getI (xs.take j))) rfl ?_
    exact ⟨[blk pr [.slice (some ⟨b, (o + j), none⟩) (n - j) (c - j)] 129, A], ⟨rfl, rfl⟩, H⟩
end Go.Proofs.YtanejicgmgpjcaaGreatDoor
