/-
  Walks: slices.Chunk. No condition.
-/
import Derived.Test.YtanejicgmgpjcaaGreatDoorLogC
import Derived.Test.YtanejicgmgpjcaaGreatDoorCoreR
set_option maxRecDepth 100000
namespace Go.Proofs.YtanejicgmgpjcaaGreatDoor
open Go.RowKit
theorem chunk_it (bs bn b off m cap : Nat) (hm : m * 256 ≤ cap) (hc : cap ≤ 9223372036854775807) (hm1 : m ≤ 1099511627776) : It Tryz.prog 51 [.pointer (some ⟨bs, 0, none⟩), .pointer (some ⟨bn, 0, none⟩)] [blk bs [.slice (some ⟨b, off, none⟩) (m * 256) cap] 70, blk bn [.int .i64 256] 3] (((List.range m).map fun i => Value.slice (some ⟨b, off + i * 256, none⟩) 256 256).map fun v => [v]) := by
  intro z l J hY w H'
  have H : Sep z (blk bs [.slice (some ⟨b, off, none⟩) (m * 256) cap] 70 :: blk bn [.int .i64 256] 3 :: J 0) w := H'
  clear H'
  refine it_enter (args := [.func (.yield l) #[] #[], .pointer (some ⟨bs, 0, none⟩), .pointer (some ⟨bn, 0, none⟩)]) Tryz.func51 rfl rfl 31 Tryz.ntmps51 rfl ?_
  refine rk_seq ?_
  refine rs_region ?_
  refine s_do rfl rfl rfl (d_assign rfl rfl) ?_
  refine s_end ?_
  refine rk_block ?_
  refine rc_loop (σ := Nat) (fun i => [(4, .int .i64 ((i * 256 : Nat) : Int)), (0, .func (.yield l) #[] #[]), (1, .pointer (some ⟨bs, 0, none⟩)), (2, .pointer (some ⟨bn, 0, none⟩))])
    (fun i w => Sep z (blk bs [.slice (some ⟨b, off, none⟩) (m * 256) cap] 70 :: blk bn [.int .i64 256] 3 :: J i) w ∧ (i ≤ m)) (fun i => m - i) 0
    (fun _ hF => (hF.cons (hF.cons (hF.cons (hF.cons hF.nil 2 _ _ rfl rfl) 1 _ _ rfl rfl) 0 _ _ rfl rfl) 4 _ _ rfl (congrArg (Value.int .i64) (by simp)))) ⟨H, Nat.zero_le _⟩ ?_
  clear H; rintro i w ⟨H', hI⟩
  have H : Sep z (blk bs [.slice (some ⟨b, off, none⟩) (m * 256) cap] 70 :: blk bn [.int .i64 256] 3 :: J i) w := H'
  clear H'
  have him := hI; clear hI
  refine rk_seq ?_
  refine rk_seq ?_
  refine rs_region ?_
  refine s_do rfl rfl rfl (d_move rfl rfl) ?_
  refine s_do rfl rfl rfl (d_load rfl rfl (by kernel_rfl) (here (H.cel 0 rfl 0 rfl))) ?_
  refine s_do rfl rfl rfl (d_len rfl (z := 1) (by kernel_rfl) rfl) ?_
  refine s_do rfl rfl rfl (d_lss rfl rfl rfl) ?_
  refine s_end ?_
  refine rk_dec rfl (fun h1 => ?_) (fun h1 => ?_)
  · -- yes: ((i * 256 : Nat) : Int) < ((m * 256 : Nat) : Int)
    have hlt : i < m := by omega
    refine rk_skip ?_
    refine rk_seq ?_
    refine rk_block ?_
    refine rk_seq ?_
    refine rq_region (Sep z (blk bs [.slice (some ⟨b, off, none⟩) (m * 256) cap] 70 :: blk bn [.int .i64 256] 3 :: J i)) (by kernel_rfl) (by kernel_rfl) H.drew ?_
    refine q_do rfl rfl rfl (d_load rfl rfl (by kernel_rfl) (fun _ hx => hx.cel 1 rfl 0 rfl)) ?_
    refine q_do rfl rfl rfl (d_load rfl rfl (by kernel_rfl) (fun _ hx => hx.cel 0 rfl 0 rfl)) ?_
    refine q_do rfl rfl rfl (d_move rfl rfl) ?_
    refine q_do rfl rfl rfl (d_sliceC rfl (z := 1) (p := (i * 256)) (q := m * 256) (o' := off + i * 256) (l' := (m * 256 - i * 256)) (c' := (cap - i * 256)) (by kernel_rfl) rfl (.inr ⟨_, _, _, rfl, rfl, (by omega)⟩) (.inl ⟨rfl, rfl⟩) (by omega) (by omega) (by omega) (by omega) (by omega) (by omega)) ?_
    refine q_do rfl rfl rfl (d_len rfl (z := 1) (by kernel_rfl) rfl) ?_
    refine q_do rfl rfl rfl (d_min rfl rfl rfl) ?_
    refine k_updA 18 (u := .int .i64 (min (256 : Int) ((m * 256 - i * 256 : Nat) : Int))) (v := .int .i64 256) rfl (congrArg (Value.int .i64) (by omega)) ?_
    refine q_do rfl rfl rfl (d_assign rfl rfl) ?_
    refine q_end (fun w H' => ?_)
    have H : Sep z (blk bs [.slice (some ⟨b, off, none⟩) (m * 256) cap] 70 :: blk bn [.int .i64 256] 3 :: J i) w := H'
    clear H'
    refine rk_seq ?_
    refine i_region ?_
    refine i_do rfl rfl rfl (d_move rfl rfl) ?_
    refine i_do rfl rfl rfl (d_load rfl rfl (by kernel_rfl) (here (H.cel 0 rfl 0 rfl))) ?_
    refine i_do rfl rfl rfl (d_move rfl rfl) ?_
    refine i_do rfl rfl rfl (d_move rfl rfl) ?_
    refine i_do rfl rfl rfl (d_move rfl rfl) ?_
    refine i_do rfl rfl rfl (d_add64 rfl rfl rfl (r := (((i + 1) * 256 : Nat) : Int)) (by omega) (by omega)) ?_
    refine i_do rfl rfl rfl (d_move rfl rfl) ?_
    refine i_do rfl rfl rfl (d_move rfl rfl) ?_
    refine i_do rfl rfl rfl (d_add64 rfl rfl rfl (r := (((i + 1) * 256 : Nat) : Int)) (by omega) (by omega)) ?_
    refine i_do rfl rfl rfl (d_slice3 rfl (sz := 1) (p := (i * 256)) (q := ((i + 1) * 256)) (o' := off + i * 256) (l' := 256) (by kernel_rfl) rfl rfl rfl rfl (by omega) (by omega) (by omega) (by omega) (by omega) (by omega) (by omega)) ?_
    refine i_yield rfl rfl rfl rfl rfl rfl (hY i _ (by simp [List.getElem?_range hlt]) _ H) ?_
    rintro _ w ⟨rfl, H'⟩
    refine ⟨_, rfl, ?_⟩
    have H : Sep z (blk bs [.slice (some ⟨b, off, none⟩) (m * 256) cap] 70 :: blk bn [.int .i64 256] 3 :: J (i + 1)) w := H'
    clear H'
    refine i_do rfl rfl rfl (d_not rfl rfl) ?_
    refine i_end ?_
    refine rk_false rfl ?_
    refine rk_skip ?_
    refine rs_region ?_
    refine s_do rfl rfl rfl (d_move rfl rfl) ?_
    refine s_do rfl rfl rfl (d_load rfl rfl (by kernel_rfl) (here (H.cel 1 rfl 0 rfl))) ?_
    refine s_do rfl rfl rfl (d_add64 rfl rfl rfl (r := (((i + 1) * 256 : Nat) : Int)) (by omega) (by omega)) ?_
    refine s_do rfl rfl rfl (d_assign rfl rfl) ?_
    refine s_end ?_
    intro _ hF
    refine ⟨(i + 1), (hF.cons (hF.cons (hF.cons (hF.cons hF.nil 2 _ _ rfl rfl) 1 _ _ rfl rfl) 0 _ _ rfl rfl) 4 _ _ rfl rfl), ⟨H, ?_⟩, ?_⟩
    · omega
    · omega
  · -- no: ((i * 256 : Nat) : Int) < ((m * 256 : Nat) : Int)
    refine rk_exit ?_
    refine k_here ?_
    obtain rfl : i = m := by omega
    exact fun _ hF => ⟨hF.defers, by simpa using H⟩

theorem chunk_c (b off n c : Nat) : Cn Tryz.prog 38 [.slice (some ⟨b, off, none⟩) n c, .int .i64 256] [] (fun v Γ => (∃ bs bn, v = .func (.func 51) #[] #[.pointer (some ⟨bs, 0, none⟩), .pointer (some ⟨bn, 0, none⟩)] ∧ Γ = [blk bs [.slice (some ⟨b, off, none⟩) n c] 70, blk bn [.int .i64 256] 3])) := by
  intro z R w H'
  have H : Sep z (R) w := H'
  clear H'
  refine enter Tryz.func38 rfl 9 Tryz.ntmps38 rfl ?_
  refine k_seq ?_
  refine s_region ?_
  refine s_go rfl rfl rfl (n_box H rfl rfl (cs := [.slice (some ⟨b, off, none⟩) n c]) rfl) ?_
  rintro _ w ⟨b1, rfl, H'⟩
  have H : Sep z (blk b1 [.slice (some ⟨b, off, none⟩) n c] 70 :: R) w := H'
  clear H'
  refine s_go rfl rfl rfl (n_box H rfl rfl (cs := [.int .i64 256]) rfl) ?_
  rintro _ w ⟨b2, rfl, H'⟩
  have H : Sep z (blk b2 [.int .i64 256] 3 :: blk b1 [.slice (some ⟨b, off, none⟩) n c] 70 :: R) w := H'
  clear H'
  refine s_do rfl rfl rfl (d_assign rfl rfl) ?_
  refine s_end ?_
  refine k_seq ?_
  refine k_seq ?_
  refine s_region ?_
  refine s_do rfl rfl rfl (d_load rfl rfl (by kernel_rfl) (here (H.cel 0 rfl 0 rfl))) ?_
  refine s_do rfl rfl rfl (d_lss rfl rfl rfl) ?_
  refine k_updA 6 (u := .bool (decide ((256 : Int) < 1))) (v := .bool false) rfl (congrArg Value.bool (by decide)) ?_
  refine s_end ?_
  refine k_false rfl ?_
  refine k_skip ?_
  refine k_seq ?_
  refine s_region ?_
  refine s_do rfl rfl rfl (d_makeFunc rfl rfl rfl) ?_
  refine s_do rfl rfl rfl (d_assign rfl rfl) ?_
  refine s_end ?_
  refine k_ret ?_
  refine doneL rfl [.func (.func 51) #[] #[.pointer (some ⟨b1, 0, none⟩), .pointer (some ⟨b2, 0, none⟩)]] ⟨rfl, trivial⟩ (v := .func (.func 51) #[] #[.pointer (some ⟨b1, 0, none⟩), .pointer (some ⟨b2, 0, none⟩)]) rfl ?_
  exact ⟨[blk b1 [.slice (some ⟨b, off, none⟩) n c] 70, blk b2 [.int .i64 256] 3], ⟨b1, b2, rfl, rfl⟩, H.perm 2 [1, 0] rfl rfl⟩
end Go.Proofs.YtanejicgmgpjcaaGreatDoor
