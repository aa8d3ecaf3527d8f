/-
  Walks: codec. No condition.
-/
import Derived.Test.YtanejicgmgpjcaaGreatDoorLogF
import Derived.Test.YtanejicgmgpjcaaGreatDoorLogP
import Derived.Test.YtanejicgmgpjcaaGreatDoorCoreW
set_option maxRecDepth 100000
namespace Go.Proofs.YtanejicgmgpjcaaGreatDoor
open Go.RowKit
theorem more0_c (pt : Nat) (v : Value) (bs : List UInt8) (A : Asn) (hA : ∀ h, A h → rdH 1 v bs.length (bs.map u8) h) : Cn Tryz.prog 45 [.pointer (some ⟨pt, 0, none⟩), .int .u32 0, v] [tblA pt, A] (fun v Γ => v = u32 (crcSum bs) ∧ Γ = [tblA pt, A]) := by
  have h := more_c pt 0 v bs A hA
  rw [show u32 0 = Value.int .u32 0 from rfl] at h
  exact h

theorem sum_c (pt : Nat) (v : Value) (n : Nat) (bs : List UInt8) (hn : bs.length = n) (A : Asn) (hA : ∀ h, A h → rdH 1 v n (bs.map u8) h) : Cn Tryz.prog 35 [.pointer (some ⟨pt, 0, none⟩), v] [tblA pt, A] (fun v Γ => v = u32 (crcSum bs) ∧ Γ = [tblA pt, A]) := by
  intro z R w H'
  have H : Sep z (tblA pt :: A :: R) w := H'
  clear H'
  subst hn
  refine enter Tryz.func35 rfl 8 Tryz.ntmps35 rfl ?_
  refine k_seq ?_
  refine s_region ?_
  refine s_do rfl rfl rfl (d_assign rfl rfl) ?_
  refine s_end ?_
  refine k_seq ?_
  refine s_region ?_
  refine s_do rfl rfl rfl (d_move rfl rfl) ?_
  refine s_do rfl rfl rfl (d_move rfl rfl) ?_
  refine s_callC rfl rfl rfl rfl rfl (fun w => Tryz.call45 _ w) (more0_c _ _ bs _ hA) H 2 [0, 1] rfl rfl ?_
  rintro _ w _ ⟨rfl, rfl⟩ H'
  have H : Sep z (tblA pt :: A :: R) w := H'
  clear H'
  refine s_do rfl rfl rfl (d_assign rfl rfl) ?_
  refine s_end ?_
  refine k_ret ?_
  refine doneL rfl [u32 (crcSum bs)] ⟨rfl, trivial⟩ (v := u32 (crcSum bs)) rfl ?_
  exact ⟨[tblA pt, A], ⟨rfl, rfl⟩, H⟩

theorem csum_c (pt : Nat) (v : Value) (n : Nat) (bs : List UInt8) (hn : bs.length = n) (A : Asn) (hA : ∀ h, A h → rdH 1 v n (bs.map u8) h) : Cn Tryz.prog 61 [.pointer (some ⟨pt, 0, none⟩), v] [tblA pt, A] (fun v Γ => v = .agg #[u8 ((crcSum bs).toUInt8), u8 (((crcSum bs) >>> 8).toUInt8), u8 (((crcSum bs) >>> 16).toUInt8), u8 (((crcSum bs) >>> 24).toUInt8)] ∧ Γ = [tblA pt, A]) := by
  intro z R w H'
  have H : Sep z (tblA pt :: A :: R) w := H'
  clear H'
  refine enter Tryz.func61 rfl 21 Tryz.ntmps61 rfl ?_
  refine k_seq ?_
  refine s_region ?_
  refine s_go rfl rfl rfl (n_alloc (P := Tryz.prog) H rfl (zs := [u8 0, u8 0, u8 0, u8 0]) (by kernel_rfl)) ?_
  rintro _ w ⟨b1, rfl, H'⟩
  have H : Sep z (blk b1 [u8 0, u8 0, u8 0, u8 0] 134 :: tblA pt :: A :: R) w := H'
  clear H'
  refine s_end ?_
  refine k_seq ?_
  refine s_region ?_
  refine s_do rfl rfl rfl (d_move rfl rfl) ?_
  refine s_do rfl rfl rfl (d_move rfl rfl) ?_
  refine s_callC rfl rfl rfl rfl rfl (fun w => Tryz.call35 _ w) (sum_c _ _ _ bs (by omega) _ hA) H 3 [1, 2, 0] rfl rfl ?_
  rintro _ w _ ⟨rfl, rfl⟩ H'
  have H : Sep z (tblA pt :: A :: blk b1 [u8 0, u8 0, u8 0, u8 0] 134 :: R) w := H'
  clear H'
  refine s_do rfl rfl rfl (d_assign rfl rfl) ?_
  refine s_end ?_
  refine k_seq ?_
  refine s_region ?_
  refine s_do rfl rfl rfl (d_move rfl rfl) ?_
  refine s_do rfl rfl rfl (d_32to8 rfl (by kernel_rfl) rfl) ?_
  refine s_do rfl rfl rfl (d_move rfl rfl) ?_
  refine s_do rfl rfl rfl (d_shr32 rfl rfl (m := 8) (n' := 8) rfl (by decide)) ?_
  refine s_do rfl rfl rfl (d_32to8 rfl (by kernel_rfl) rfl) ?_
  refine s_do rfl rfl rfl (d_move rfl rfl) ?_
  refine s_do rfl rfl rfl (d_shr32 rfl rfl (m := 16) (n' := 16) rfl (by decide)) ?_
  refine s_do rfl rfl rfl (d_32to8 rfl (by kernel_rfl) rfl) ?_
  refine s_do rfl rfl rfl (d_move rfl rfl) ?_
  refine s_do rfl rfl rfl (d_shr32 rfl rfl (m := 24) (n' := 24) rfl (by decide)) ?_
  refine s_do rfl rfl rfl (d_32to8 rfl (by kernel_rfl) rfl) ?_
  refine s_do rfl rfl rfl (d_build rfl rfl (out := [u8 ((crcSum bs).toUInt8), u8 (((crcSum bs) >>> 8).toUInt8), u8 (((crcSum bs) >>> 16).toUInt8), u8 (((crcSum bs) >>> 24).toUInt8)]) (by kernel_rfl)) ?_
  refine s_put rfl rfl (n_store 2 H rfl rfl rfl rfl (vs := [u8 ((crcSum bs).toUInt8), u8 (((crcSum bs) >>> 8).toUInt8), u8 (((crcSum bs) >>> 16).toUInt8), u8 (((crcSum bs) >>> 24).toUInt8)]) rfl (by simp [u8, u32, Value.oneCell']) (by kernel_rfl) (by simp) (out := [u8 ((crcSum bs).toUInt8), u8 (((crcSum bs) >>> 8).toUInt8), u8 (((crcSum bs) >>> 16).toUInt8), u8 (((crcSum bs) >>> 24).toUInt8)]) rfl) ?_
  rintro w H'
  have H : Sep z (tblA pt :: A :: blk b1 [u8 ((crcSum bs).toUInt8), u8 (((crcSum bs) >>> 8).toUInt8), u8 (((crcSum bs) >>> 16).toUInt8), u8 (((crcSum bs) >>> 24).toUInt8)] 134 :: R) w := H'
  clear H'
  refine s_end ?_
  refine k_ret ?_
  refine doneL rfl [.agg #[u8 ((crcSum bs).toUInt8), u8 (((crcSum bs) >>> 8).toUInt8), u8 (((crcSum bs) >>> 16).toUInt8), u8 (((crcSum bs) >>> 24).toUInt8)]] ⟨⟨_, _, rfl, run_loadBlk (by kernel_rfl) (H.blk 2 rfl) (vs := [u8 ((crcSum bs).toUInt8), u8 (((crcSum bs) >>> 8).toUInt8), u8 (((crcSum bs) >>> 16).toUInt8), u8 (((crcSum bs) >>> 24).toUInt8)]) rfl⟩, trivial⟩ (v := .agg #[u8 ((crcSum bs).toUInt8), u8 (((crcSum bs) >>> 8).toUInt8), u8 (((crcSum bs) >>> 16).toUInt8), u8 (((crcSum bs) >>> 24).toUInt8)]) rfl ?_
  exact ⟨[tblA pt, A], ⟨rfl, rfl⟩, H.perm 3 [0, 1] rfl rfl⟩

theorem put_c (pw a k : Nat) (x : Int) (bs : List UInt8) (hb : bs.length = 256) (hk : a + k ≤ 256 ∧ k ≤ 8) : Cn Tryz.prog 49 [.pointer (some ⟨pw, 0, none⟩), .int .i64 x, .int .i64 (k : Int)] [blk pw (wrC bs (a : Int)) 118] (fun v Γ => v = .tuple #[] ∧ Γ = [blk pw (wrC (wrAll bs (beN k x) a) ((a + k : Nat) : Int)) 118]) := by
  intro z R w H'
  have H : Sep z (blk pw (wrC bs (a : Int)) 118 :: R) w := H'
  clear H'
  refine enter Tryz.func49 rfl 38 Tryz.ntmps49 rfl ?_
  refine k_seq ?_
  refine k_seq ?_
  refine s_region ?_
  refine s_do rfl rfl rfl (d_move rfl rfl) ?_
  refine s_do rfl rfl rfl (d_move rfl rfl) ?_
  refine s_end ?_
  refine k_block ?_
  refine c_loop (σ := Nat) (fun i => [(8, .int .i64 (i : Int)), (0, .pointer (some ⟨pw, 0, none⟩)), (1, .int .i64 x), (2, .int .i64 (k : Int)), (7, .int .i64 (k : Int))])
    (fun i w => Sep z (blk pw (wrC (wrS bs (beN k x) a i) (a : Int)) 118 :: R) w ∧ (i ≤ k)) (fun i => k - i) 0
    (fun _ hF => (hF.cons (hF.cons (hF.cons (hF.cons (hF.cons hF.nil 7 _ _ rfl rfl) 2 _ _ rfl rfl) 1 _ _ rfl rfl) 0 _ _ rfl rfl) 8 _ _ rfl (by go_num))) ⟨(by rw [wrS_zero]; exact H), by omega⟩ ?_
  clear H; rintro i w ⟨H', hI⟩
  have H : Sep z (blk pw (wrC (wrS bs (beN k x) a i) (a : Int)) 118 :: R) w := H'
  clear H'
  have hik := hI; clear hI
  have hwl : (wrS bs (beN k x) a i).length = 256 := by rw [wrS_len (by omega) (by rw [beN_len]; omega)]; exact hb
  refine k_seq ?_
  refine s_region ?_
  refine s_do rfl rfl rfl (d_lss rfl rfl rfl) ?_
  refine s_end ?_
  refine k_seq ?_
  refine k_dec rfl (fun h1 => ?_) (fun h1 => ?_)
  · -- yes: (i : Int) < (k : Int)
    have hi : i < k := by omega
    refine k_skip ?_
    refine k_seq ?_
    refine k_block ?_
    refine k_seq ?_
    refine s_region ?_
    refine s_do rfl rfl rfl (d_move rfl rfl) ?_
    refine s_do rfl rfl rfl (d_assign rfl rfl) ?_
    refine s_end ?_
    refine t_region 18 (by kernel_rfl) (by kernel_rfl) (fun w' x' _ => ?_)
    have H' := H.ext0 x'; clear x' H; revert H'; generalize w' = w; intro H'
    have H : Sep z (blk pw (wrC (wrS bs (beN k x) a i) (a : Int)) 118 :: R) w := H'
    clear H'
    refine t_do rfl rfl rfl (d_move rfl rfl) ?_
    refine t_do rfl rfl rfl (d_move rfl rfl) ?_
    refine t_do rfl rfl rfl (d_nilCheck rfl rfl) ?_
    refine t_do rfl rfl rfl (d_field rfl (k := 256) (r := 256) (by kernel_rfl) rfl rfl) ?_
    refine t_do rfl rfl rfl (d_load rfl rfl (by kernel_rfl) (here (H.cel 0 rfl 256 (wrC_at _ hwl)))) ?_
    refine t_do rfl rfl rfl (d_move rfl rfl) ?_
    refine t_do rfl rfl rfl (d_add64 rfl rfl rfl (r := ((a + i : Nat) : Int)) (by omega) (by omega)) ?_
    refine t_do rfl rfl rfl (d_move rfl rfl) ?_
    refine t_do rfl rfl rfl (d_move rfl rfl) ?_
    refine t_do rfl rfl rfl (d_sub64 rfl rfl rfl (r := (k : Int) - 1) (by omega) (by omega)) ?_
    refine t_do rfl rfl rfl (d_move rfl rfl) ?_
    refine t_do rfl rfl rfl (d_sub64 rfl rfl rfl (r := ((k - 1 - i : Nat) : Int)) (by omega) (by omega)) ?_
    refine t_do rfl rfl rfl (d_mul64 rfl rfl rfl (r := ((8 * (k - 1 - i) : Nat) : Int)) (by omega) (by omega)) ?_
    refine t_do rfl rfl rfl (d_shrI rfl rfl rfl (m := 8 * (k - 1 - i)) rfl (by omega)) ?_
    refine t_do rfl rfl rfl (d_to8 rfl (by kernel_rfl) rfl) ?_
    refine t_do rfl rfl rfl (d_nilCheck rfl rfl) ?_
    refine t_do rfl rfl rfl (d_field rfl (k := 0) (r := 0) (by kernel_rfl) rfl rfl) ?_
    refine t_do rfl rfl rfl (d_indexA (l := 256) rfl (z := 1) (j := (a + i)) (r := a + i) (by kernel_rfl) rfl rfl rfl (by omega) (by omega)) ?_
    refine t_end ?_
    refine s_put rfl rfl (n_store 0 H rfl rfl rfl rfl (vs := [u8 (byt (x / 2 ^ (8 * (k - 1 - i))))]) rfl (by simp [u8, u32, Value.oneCell']) (by kernel_rfl) (by rw [wrC_len _ hwl]; simp; omega) (out := (wrC (wrS bs (beN k x) a (i + 1)) (a : Int))) (wrC_step _ (by rw [beN_len]; omega) (beN_get x hi))) ?_
    rintro w H'
    have H : Sep z (blk pw (wrC (wrS bs (beN k x) a (i + 1)) (a : Int)) 118 :: R) w := H'
    clear H'
    refine s_end ?_
    refine s_region ?_
    refine s_do rfl rfl rfl (d_add64 rfl rfl rfl (r := (i : Int) + 1) (by omega) (by omega)) ?_
    refine s_do rfl rfl rfl (d_move rfl rfl) ?_
    refine s_end ?_
    intro _ hF
    refine ⟨(i + 1), (hF.cons (hF.cons (hF.cons (hF.cons (hF.cons hF.nil 7 _ _ rfl rfl) 2 _ _ rfl rfl) 1 _ _ rfl rfl) 0 _ _ rfl rfl) 8 _ _ rfl (by go_num)), ⟨H, ?_⟩, ?_⟩
    · omega
    · omega
  · -- no: (i : Int) < (k : Int)
    obtain rfl : i = k := by omega
    rw [wrS_all bs (beN i x) a (by rw [beN_len])] at H
    have hwl2 : (wrAll bs (beN i x) a).length = 256 := by rw [wrAll_len (by rw [beN_len]; omega)]; exact hb
    refine k_exit ?_
    refine k_here ?_
    refine s_region ?_
    refine s_do rfl rfl rfl (d_move rfl rfl) ?_
    refine s_do rfl rfl rfl (d_nilCheck rfl rfl) ?_
    refine s_do rfl rfl rfl (d_field rfl (k := 256) (r := 256) (by kernel_rfl) rfl rfl) ?_
    refine s_do rfl rfl rfl (d_load rfl rfl (by kernel_rfl) (here (H.cel 0 rfl 256 (wrC_at _ hwl2)))) ?_
    refine s_do rfl rfl rfl (d_move rfl rfl) ?_
    refine s_do rfl rfl rfl (d_add64 rfl rfl rfl (r := ((a + i : Nat) : Int)) (by omega) (by omega)) ?_
    refine s_do rfl rfl rfl (d_nilCheck rfl rfl) ?_
    refine s_do rfl rfl rfl (d_field rfl (k := 256) (r := 256) (by kernel_rfl) rfl rfl) ?_
    refine s_put rfl rfl (n_store 0 H rfl rfl rfl rfl (vs := [.int .i64 ((a + i : Nat) : Int)]) rfl (by simp [u8, u32, Value.oneCell']) (by kernel_rfl) (by rw [wrC_len _ hwl2]; simp) (out := (wrC (wrAll bs (beN i x) a) ((a + i : Nat) : Int))) (wrC_set _ _ hwl2)) ?_
    rintro w H'
    have H : Sep z (blk pw (wrC (wrAll bs (beN i x) a) ((a + i : Nat) : Int)) 118 :: R) w := H'
    clear H'
    refine s_end ?_
    refine doneL rfl [] trivial (v := .tuple #[]) rfl ?_
    exact ⟨[blk pw (wrC (wrAll bs (beN i x) a) ((a + i : Nat) : Int)) 118], ⟨rfl, rfl⟩, H⟩
end Go.Proofs.YtanejicgmgpjcaaGreatDoor
