/-
  Walks: sync.Once, sums. No condition.
-/
import Derived.Test.YtanejicgmgpjcaaGreatDoorLogK
import Derived.Test.YtanejicgmgpjcaaGreatDoorCoreO
import Derived.Test.YtanejicgmgpjcaaGreatDoorLogM
import Derived.Test.YtanejicgmgpjcaaGreatDoorLogA
set_option maxRecDepth 100000
namespace Go.Proofs.YtanejicgmgpjcaaGreatDoor
open Go.RowKit
theorem ilock_c (pt i : Nat) (x0 x2 : Value) : Cn Tryz.prog 98 [.pointer (some ⟨pt, 1, none⟩)] [blk pt (tabC x0 (.int .i32 0) x2 i) 69] (fun v Γ => v = .tuple #[] ∧ Γ = [blk pt (tabC x0 (.int .i32 1) x2 i) 69]) := by
  intro z R w H'
  have H : Sep z (blk pt (tabC x0 (.int .i32 0) x2 i) 69 :: R) w := H'
  clear H'
  refine enter Tryz.func98 rfl 13 Tryz.ntmps98 rfl ?_
  refine k_seq ?_
  refine s_region ?_
  refine s_do rfl rfl rfl (d_ext (v := .tuple #[]) (vs := []) rfl rfl (fun w _ => run_call_mark0 Tryz.func104 (by kernel_rfl) (by kernel_rfl) (by kernel_rfl) .disable (by kernel_rfl) w)) ?_
  refine s_end ?_
  refine k_seq ?_
  refine k_seq ?_
  refine s_region ?_
  refine s_do rfl rfl rfl (d_move rfl rfl) ?_
  refine s_do rfl rfl rfl (d_nilCheck rfl rfl) ?_
  refine s_do rfl rfl rfl (d_field rfl (k := 0) (r := 1) (by kernel_rfl) rfl rfl) ?_
  refine s_go rfl rfl rfl (n_ext 0 (p := 1) (u0 := .int .i32 0) (u := .int .i32 1) (v := .bool true) H rfl rfl rfl (vs := [.pointer (some ⟨pt, 1, none⟩), .int .i32 0, .int .i32 1]) rfl rfl (fun hc hz => run_call_cas_hit Tryz.func105 (by kernel_rfl) (by kernel_rfl) (by kernel_rfl) .i32 (by kernel_rfl) hc hz) (out := (tabC x0 (.int .i32 1) x2 i)) rfl) ?_
  rintro _ w ⟨rfl, H'⟩
  have H : Sep z (blk pt (tabC x0 (.int .i32 1) x2 i) 69 :: R) w := H'
  clear H'
  refine s_end ?_
  refine k_true rfl ?_
  refine k_seq ?_
  refine k_true rfl ?_
  refine k_seq ?_
  refine s_region ?_
  refine s_do rfl rfl rfl (d_ext (v := .tuple #[]) (vs := []) rfl rfl (fun w _ => run_call_mark0 Tryz.func106 (by kernel_rfl) (by kernel_rfl) (by kernel_rfl) .enable (by kernel_rfl) w)) ?_
  refine s_end ?_
  refine s_region ?_
  refine s_do rfl rfl rfl (d_move rfl rfl) ?_
  refine s_do rfl rfl rfl (d_unsafe rfl (by kernel_rfl) rfl (here (H.cel 0 rfl 1 rfl))) ?_
  refine s_do rfl rfl rfl (d_ext (v := .tuple #[]) (vs := [.pointer (some ⟨pt, 1, none⟩)]) rfl rfl (fun w _ => run_call_marked Tryz.func107 (by kernel_rfl) (by kernel_rfl) (by kernel_rfl) .acquire (by kernel_rfl) _ w)) ?_
  refine s_end ?_
  refine k_ret ?_
  refine doneL rfl [] trivial (v := .tuple #[]) rfl ?_
  exact ⟨[blk pt (tabC x0 (.int .i32 1) x2 i) 69], ⟨rfl, rfl⟩, H⟩

theorem iunlock_c (pt i : Nat) (x0 x2 : Value) : Cn Tryz.prog 99 [.pointer (some ⟨pt, 1, none⟩)] [blk pt (tabC x0 (.int .i32 1) x2 i) 69] (fun v Γ => v = .tuple #[] ∧ Γ = [blk pt (tabC x0 (.int .i32 0) x2 i) 69]) := by
  intro z R w H'
  have H : Sep z (blk pt (tabC x0 (.int .i32 1) x2 i) 69 :: R) w := H'
  clear H'
  refine enter Tryz.func99 rfl 21 Tryz.ntmps99 rfl ?_
  refine k_seq ?_
  refine k_true rfl ?_
  refine k_seq ?_
  refine s_region ?_
  refine s_do rfl rfl rfl (d_move rfl rfl) ?_
  refine s_do rfl rfl rfl (d_nilCheck rfl rfl) ?_
  refine s_do rfl rfl rfl (d_field rfl (k := 0) (r := 1) (by kernel_rfl) rfl rfl) ?_
  refine s_do rfl rfl rfl (d_load rfl rfl (by kernel_rfl) (here (H.cel 0 rfl 1 rfl))) ?_
  refine s_end ?_
  refine k_seq ?_
  refine s_region ?_
  refine s_do rfl rfl rfl (d_move rfl rfl) ?_
  refine s_do rfl rfl rfl (d_unsafe rfl (by kernel_rfl) rfl (here (H.cel 0 rfl 1 rfl))) ?_
  refine s_do rfl rfl rfl (d_ext (v := .tuple #[]) (vs := [.pointer (some ⟨pt, 1, none⟩)]) rfl rfl (fun w _ => run_call_marked Tryz.func109 (by kernel_rfl) (by kernel_rfl) (by kernel_rfl) .releaseMerge (by kernel_rfl) _ w)) ?_
  refine s_end ?_
  refine s_region ?_
  refine s_do rfl rfl rfl (d_ext (v := .tuple #[]) (vs := []) rfl rfl (fun w _ => run_call_mark0 Tryz.func104 (by kernel_rfl) (by kernel_rfl) (by kernel_rfl) .disable (by kernel_rfl) w)) ?_
  refine s_end ?_
  refine k_seq ?_
  refine s_region ?_
  refine s_do rfl rfl rfl (d_move rfl rfl) ?_
  refine s_do rfl rfl rfl (d_nilCheck rfl rfl) ?_
  refine s_do rfl rfl rfl (d_field rfl (k := 0) (r := 1) (by kernel_rfl) rfl rfl) ?_
  refine s_go rfl rfl rfl (n_ext 0 (p := 1) (u0 := .int .i32 1) (u := .int .i32 0) (v := .int .i32 0) H rfl rfl rfl (vs := [.pointer (some ⟨pt, 1, none⟩), .int .i32 (-1)]) rfl rfl (fun hc hz => run_call_add Tryz.func110 (by kernel_rfl) (by kernel_rfl) (by kernel_rfl) .i32 (by kernel_rfl) (s := 0) hc hz (by simp [go_sem]; rfl)) (out := (tabC x0 (.int .i32 0) x2 i)) rfl) ?_
  rintro _ w ⟨rfl, H'⟩
  have H : Sep z (blk pt (tabC x0 (.int .i32 0) x2 i) 69 :: R) w := H'
  clear H'
  refine s_do rfl rfl rfl (d_assign rfl rfl) ?_
  refine s_end ?_
  refine k_seq ?_
  refine k_seq ?_
  refine s_region ?_
  refine s_do rfl rfl rfl (d_move rfl rfl) ?_
  refine s_do rfl rfl rfl (d_neq rfl rfl rfl) ?_
  refine k_updA 16 (u := .bool (decide ((0 : Int) ≠ 0))) (v := .bool false) rfl (congrArg Value.bool (by decide)) ?_
  refine s_end ?_
  refine k_false rfl ?_
  refine k_skip ?_
  refine s_region ?_
  refine s_do rfl rfl rfl (d_ext (v := .tuple #[]) (vs := []) rfl rfl (fun w _ => run_call_mark0 Tryz.func106 (by kernel_rfl) (by kernel_rfl) (by kernel_rfl) .enable (by kernel_rfl) w)) ?_
  refine s_end ?_
  refine doneL rfl [] trivial (v := .tuple #[]) rfl ?_
  exact ⟨[blk pt (tabC x0 (.int .i32 0) x2 i) 69], ⟨rfl, rfl⟩, H⟩

theorem lock_c (pt i : Nat) (x0 x2 : Value) : Cn Tryz.prog 90 [.pointer (some ⟨pt, 1, none⟩)] [blk pt (tabC x0 (.int .i32 0) x2 i) 69] (fun v Γ => v = .tuple #[] ∧ Γ = [blk pt (tabC x0 (.int .i32 1) x2 i) 69]) := by
  intro z R w H'
  have H : Sep z (blk pt (tabC x0 (.int .i32 0) x2 i) 69 :: R) w := H'
  clear H'
  refine enter Tryz.func90 rfl 6 Tryz.ntmps90 rfl ?_
  refine s_region ?_
  refine s_do rfl rfl rfl (d_move rfl rfl) ?_
  refine s_do rfl rfl rfl (d_nilCheck rfl rfl) ?_
  refine s_do rfl rfl rfl (d_field rfl (k := 0) (r := 1) (by kernel_rfl) rfl rfl) ?_
  refine s_callC rfl rfl rfl rfl rfl (fun w => Tryz.call98 _ w) (ilock_c _ _ _ _) H 1 [0] rfl rfl ?_
  rintro _ w _ ⟨rfl, rfl⟩ H'
  have H : Sep z (blk pt (tabC x0 (.int .i32 1) x2 i) 69 :: R) w := H'
  clear H'
  refine s_end ?_
  refine doneL rfl [] trivial (v := .tuple #[]) rfl ?_
  exact ⟨[blk pt (tabC x0 (.int .i32 1) x2 i) 69], ⟨rfl, rfl⟩, H⟩

theorem unlock_d (pt i : Nat) (x0 x2 : Value) : CnD Tryz.prog 91 [.pointer (some ⟨pt, 1, none⟩)] [blk pt (tabC x0 (.int .i32 1) x2 i) 69] (fun v Γ => v = .tuple #[] ∧ Γ = [blk pt (tabC x0 (.int .i32 0) x2 i) 69]) := by
  intro z R u w H'
  have H : Sep z (blk pt (tabC x0 (.int .i32 1) x2 i) 69 :: R) w := H'
  clear H'
  refine enterD Tryz.func91 rfl 6 Tryz.ntmps91 rfl ?_
  refine s_region ?_
  refine s_do rfl rfl rfl (d_move rfl rfl) ?_
  refine s_do rfl rfl rfl (d_nilCheck rfl rfl) ?_
  refine s_do rfl rfl rfl (d_field rfl (k := 0) (r := 1) (by kernel_rfl) rfl rfl) ?_
  refine s_callC rfl rfl rfl rfl rfl (fun w => Tryz.call99 _ w) (iunlock_c _ _ _ _) H 1 [0] rfl rfl ?_
  rintro _ w _ ⟨rfl, rfl⟩ H'
  have H : Sep z (blk pt (tabC x0 (.int .i32 0) x2 i) 69 :: R) w := H'
  clear H'
  refine s_end ?_
  refine doneL rfl [] trivial (v := .tuple #[]) rfl ?_
  exact ⟨[blk pt (tabC x0 (.int .i32 0) x2 i) 69], ⟨rfl, rfl⟩, H⟩

theorem b32_c  : Cn Tryz.prog 101 [.bool true] [] (fun v Γ => v = .int .u32 1 ∧ Γ = []) := by
  intro z R w H'
  have H : Sep z (R) w := H'
  clear H'
  refine enter Tryz.func101 rfl 4 Tryz.ntmps101 rfl ?_
  refine k_seq ?_
  refine s_region ?_
  refine s_do rfl rfl rfl (d_assign rfl rfl) ?_
  refine s_end ?_
  refine k_seq ?_
  refine k_seq ?_
  refine s_region ?_
  refine s_do rfl rfl rfl (d_move rfl rfl) ?_
  refine s_end ?_
  refine k_true rfl ?_
  refine k_seq ?_
  refine s_region ?_
  refine s_do rfl rfl rfl (d_assign rfl rfl) ?_
  refine s_end ?_
  refine k_ret ?_
  refine doneL rfl [u32 1] ⟨rfl, trivial⟩ (v := u32 1) rfl ?_
  exact ⟨[], ⟨rfl, rfl⟩, H⟩

theorem bload0_c (pt i : Nat) (x1 x2 : Value) : Cn Tryz.prog 74 [.pointer (some ⟨pt, 0, none⟩)] [blk pt (tabC (.int .u32 0) x1 x2 i) 69] (fun v Γ => v = .bool false ∧ Γ = [blk pt (tabC (.int .u32 0) x1 x2 i) 69]) := by
  intro z R w H'
  have H : Sep z (blk pt (tabC (.int .u32 0) x1 x2 i) 69 :: R) w := H'
  clear H'
  refine enter Tryz.func74 rfl 8 Tryz.ntmps74 rfl ?_
  refine k_seq ?_
  refine s_region ?_
  refine s_do rfl rfl rfl (d_assign rfl rfl) ?_
  refine s_end ?_
  refine k_seq ?_
  refine s_region ?_
  refine s_do rfl rfl rfl (d_move rfl rfl) ?_
  refine s_do rfl rfl rfl (d_nilCheck rfl rfl) ?_
  refine s_do rfl rfl rfl (d_field rfl (k := 0) (r := 0) (by kernel_rfl) rfl rfl) ?_
  refine s_do rfl rfl rfl (d_ext (v := .int .u32 0) (vs := [.pointer (some ⟨pt, 0, none⟩)]) rfl rfl (here (run_call_load Tryz.func89 (by kernel_rfl) (by kernel_rfl) (by kernel_rfl) .u32 (by kernel_rfl) (H.cel 0 rfl 0 rfl)))) ?_
  refine s_do rfl rfl rfl (d_neq rfl rfl rfl) ?_
  refine k_updA 7 (u := .bool (decide ((0 : Int) ≠ 0))) (v := .bool false) rfl (congrArg Value.bool (by decide)) ?_
  refine s_do rfl rfl rfl (d_assign rfl rfl) ?_
  refine s_end ?_
  refine k_ret ?_
  refine doneL rfl [.bool false] ⟨rfl, trivial⟩ (v := .bool false) rfl ?_
  exact ⟨[blk pt (tabC (.int .u32 0) x1 x2 i) 69], ⟨rfl, rfl⟩, H⟩

theorem bload1_c (pt i : Nat) (x1 x2 : Value) : Cn Tryz.prog 74 [.pointer (some ⟨pt, 0, none⟩)] [blk pt (tabC (.int .u32 1) x1 x2 i) 69] (fun v Γ => v = .bool true ∧ Γ = [blk pt (tabC (.int .u32 1) x1 x2 i) 69]) := by
  intro z R w H'
  have H : Sep z (blk pt (tabC (.int .u32 1) x1 x2 i) 69 :: R) w := H'
  clear H'
  refine enter Tryz.func74 rfl 8 Tryz.ntmps74 rfl ?_
  refine k_seq ?_
  refine s_region ?_
  refine s_do rfl rfl rfl (d_assign rfl rfl) ?_
  refine s_end ?_
  refine k_seq ?_
  refine s_region ?_
  refine s_do rfl rfl rfl (d_move rfl rfl) ?_
  refine s_do rfl rfl rfl (d_nilCheck rfl rfl) ?_
  refine s_do rfl rfl rfl (d_field rfl (k := 0) (r := 0) (by kernel_rfl) rfl rfl) ?_
  refine s_do rfl rfl rfl (d_ext (v := .int .u32 1) (vs := [.pointer (some ⟨pt, 0, none⟩)]) rfl rfl (here (run_call_load Tryz.func89 (by kernel_rfl) (by kernel_rfl) (by kernel_rfl) .u32 (by kernel_rfl) (H.cel 0 rfl 0 rfl)))) ?_
  refine s_do rfl rfl rfl (d_neq rfl rfl rfl) ?_
  refine k_updA 7 (u := .bool (decide ((1 : Int) ≠ 0))) (v := .bool true) rfl (congrArg Value.bool (by decide)) ?_
  refine s_do rfl rfl rfl (d_assign rfl rfl) ?_
  refine s_end ?_
  refine k_ret ?_
  refine doneL rfl [.bool true] ⟨rfl, trivial⟩ (v := .bool true) rfl ?_
  exact ⟨[blk pt (tabC (.int .u32 1) x1 x2 i) 69], ⟨rfl, rfl⟩, H⟩

theorem bstore_d (pt i : Nat) (x1 x2 : Value) : CnD Tryz.prog 92 [.pointer (some ⟨pt, 0, none⟩), .bool true] [blk pt (tabC (.int .u32 0) x1 x2 i) 69] (fun v Γ => v = .tuple #[] ∧ Γ = [blk pt (tabC (.int .u32 1) x1 x2 i) 69]) := by
  intro z R u w H'
  have H : Sep z (blk pt (tabC (.int .u32 0) x1 x2 i) 69 :: R) w := H'
  clear H'
  refine enterD Tryz.func92 rfl 10 Tryz.ntmps92 rfl ?_
  refine l_region (Sep z (blk pt (tabC (.int .u32 0) x1 x2 i) 69 :: R)) 6 rfl (by kernel_rfl) (fun w' x' _ => ?_)
  have H' := H.ext0 x'; clear x' H; revert H'; generalize w' = w; intro H'
  have H : Sep z (blk pt (tabC (.int .u32 0) x1 x2 i) 69 :: R) w := H'
  clear H'
  refine l_do 0 (by kernel_rfl) rfl rfl (by kernel_rfl) (by kernel_rfl) (by kernel_rfl) rfl rfl rfl (d_move rfl rfl) (H.pick 1 [0] rfl) ?_
  refine l_do 1 (by kernel_rfl) rfl rfl (by kernel_rfl) (by kernel_rfl) (by kernel_rfl) rfl rfl rfl (d_nilCheck rfl rfl) (H.pick 1 [0] rfl) ?_
  refine l_do 2 (by kernel_rfl) rfl rfl (by kernel_rfl) (by kernel_rfl) (by kernel_rfl) rfl rfl rfl (d_field rfl (k := 0) (r := 0) (by kernel_rfl) rfl rfl) (H.pick 1 [0] rfl) ?_
  refine l_do 3 (by kernel_rfl) rfl rfl (by kernel_rfl) (by kernel_rfl) (by kernel_rfl) rfl rfl rfl (d_move rfl rfl) (H.pick 1 [0] rfl) ?_
  refine l_all [4] (by kernel_rfl) (by simp) ?_
  refine all1 ?_
  refine o_callC rfl rfl rfl rfl rfl rfl (fun w => Tryz.call101 _ w) (b32_c ) H 0 [] rfl rfl ?_
  rintro _ w _ ⟨rfl, rfl⟩ H'
  have H : Sep z (blk pt (tabC (.int .u32 0) x1 x2 i) 69 :: R) w := H'
  clear H'
  refine l_and (fun _ => (H.pick 1 [0] rfl)) ?_
  refine l_all [5] (by kernel_rfl) (by simp) ?_
  refine all1 ?_
  refine o_go rfl rfl rfl rfl (n_ext 0 (p := 0) (u0 := .int .u32 0) (u := .int .u32 1) (v := .tuple #[]) H rfl rfl rfl (vs := [.pointer (some ⟨pt, 0, none⟩), .int .u32 1]) rfl rfl (fun hc hz => run_call_store Tryz.func100 (by kernel_rfl) (by kernel_rfl) (by kernel_rfl) (by kernel_rfl) hc hz) (out := (tabC (.int .u32 1) x1 x2 i)) rfl) ?_
  rintro _ w ⟨rfl, H'⟩
  have H : Sep z (blk pt (tabC (.int .u32 1) x1 x2 i) 69 :: R) w := H'
  clear H'
  refine l_and (fun h => absurd rfl h) ?_
  refine l_done (by kernel_rfl) ?_
  refine doneL rfl [] trivial (v := .tuple #[]) rfl ?_
  exact ⟨[blk pt (tabC (.int .u32 1) x1 x2 i) 69], ⟨rfl, rfl⟩, H⟩

theorem make_c (pt : Nat) (x0 x1 x2 : Value) : Cn Tryz.prog 60 [.pointer (some ⟨pt, 0, none⟩)] [blk pt (tabC x0 x1 x2 0) 69] (fun v Γ => v = .tuple #[] ∧ Γ = [blk pt (tabC x0 x1 x2 256) 69]) := by
  intro z R w H'
  have H : Sep z (blk pt (tabC x0 x1 x2 0) 69 :: R) w := H'
  clear H'
  refine enter Tryz.func60 rfl 25 Tryz.ntmps60 rfl ?_
  refine k_seq ?_
  refine s_region ?_
  refine s_do rfl rfl rfl (d_move rfl rfl) ?_
  refine s_end ?_
  refine k_block ?_
  refine c_loop (σ := Nat) (fun i => [(4, .int .i64 (i : Int)), (0, .pointer (some ⟨pt, 0, none⟩))])
    (fun i w => Sep z (blk pt (tabC x0 x1 x2 i) 69 :: R) w ∧ (i ≤ 256)) (fun i => 256 - i) 0
    (fun _ hF => (hF.cons (hF.cons hF.nil 0 _ _ rfl rfl) 4 _ _ rfl (by go_num))) ⟨H, by omega⟩ ?_
  clear H; rintro i w ⟨H', hI⟩
  have H : Sep z (blk pt (tabC x0 x1 x2 i) 69 :: R) w := H'
  clear H'
  have hi256 := hI; clear hI
  refine k_seq ?_
  refine s_region ?_
  refine s_do rfl rfl rfl (d_lss rfl rfl rfl) ?_
  refine s_end ?_
  refine k_seq ?_
  refine k_dec rfl (fun h1 => ?_) (fun h1 => ?_)
  · -- yes: (i : Int) < 256
    have hlt : i < 256 := by omega
    refine k_skip ?_
    refine k_seq ?_
    refine k_block ?_
    refine k_seq ?_
    refine s_region ?_
    refine s_do rfl rfl rfl (d_move rfl rfl) ?_
    refine s_do rfl rfl rfl (d_assign rfl rfl) ?_
    refine s_end ?_
    refine k_seq ?_
    refine s_region ?_
    refine s_do rfl rfl rfl (d_move rfl rfl) ?_
    refine s_do rfl rfl rfl (d_to32 rfl (by kernel_rfl) rfl) ?_
    refine s_do rfl rfl rfl (d_assign rfl rfl) ?_
    refine s_end ?_
    refine k_seq ?_
    refine k_seq ?_
    refine s_region ?_
    refine s_do rfl rfl rfl (d_move rfl rfl) ?_
    refine s_end ?_
    refine k_block ?_
    refine c_loop (σ := Nat) (fun j => [(9, .int .i64 (j : Int)), (3, u32 (crcIt j (w32 (i : Int)))), (0, .pointer (some ⟨pt, 0, none⟩)), (2, .int .i64 (i : Int)), (4, .int .i64 (i : Int)), (5, .bool (decide ((i : Int) < 256))), (6, .int .i64 (i : Int)), (7, .int .i64 (i : Int)), (8, u32 (w32 (i : Int)))])
      (fun j w => Sep z (blk pt (tabC x0 x1 x2 i) 69 :: R) w ∧ (j ≤ 8)) (fun j => 8 - j) 0
      (fun _ hF => (hF.cons (hF.cons (hF.cons (hF.cons (hF.cons (hF.cons (hF.cons (hF.cons (hF.cons hF.nil 8 _ _ rfl rfl) 7 _ _ rfl rfl) 6 _ _ rfl rfl) 5 _ _ rfl rfl) 4 _ _ rfl rfl) 2 _ _ rfl rfl) 0 _ _ rfl rfl) 3 _ _ rfl (by go_num)) 9 _ _ rfl (by go_num))) ⟨H, by omega⟩ ?_
    clear H; rintro j w ⟨H', hI⟩
    have H : Sep z (blk pt (tabC x0 x1 x2 i) 69 :: R) w := H'
    clear H'
    have hj8 := hI; clear hI
    refine k_seq ?_
    refine s_region ?_
    refine s_do rfl rfl rfl (d_lss rfl rfl rfl) ?_
    refine s_end ?_
    refine k_seq ?_
    refine k_dec rfl (fun h2 => ?_) (fun h2 => ?_)
    · -- yes: (j : Int) < 8
      refine k_skip ?_
      refine k_seq ?_
      refine k_block ?_
      refine s_region ?_
      refine s_do rfl rfl rfl (d_move rfl rfl) ?_
      refine s_do rfl rfl rfl (d_shr32 rfl rfl (m := 1) (n' := 1) rfl (by decide)) ?_
      refine s_do rfl rfl rfl (d_move rfl rfl) ?_
      refine s_do rfl rfl rfl (d_and32 (q := 1) rfl rfl rfl) ?_
      refine s_do rfl rfl rfl (d_mul32 (q := 2197175160) rfl rfl rfl) ?_
      refine s_do rfl rfl rfl (d_xor32 rfl rfl rfl) ?_
      refine s_do rfl rfl rfl (d_assign rfl rfl) ?_
      refine s_end ?_
      refine s_region ?_
      refine s_do rfl rfl rfl (d_add64 rfl rfl rfl (r := (j : Int) + 1) (by omega) (by omega)) ?_
      refine s_do rfl rfl rfl (d_move rfl rfl) ?_
      refine s_end ?_
      intro _ hF
      refine ⟨(j + 1), (hF.cons (hF.cons (hF.cons (hF.cons (hF.cons (hF.cons (hF.cons (hF.cons (hF.cons hF.nil 8 _ _ rfl rfl) 7 _ _ rfl rfl) 6 _ _ rfl rfl) 5 _ _ rfl rfl) 4 _ _ rfl rfl) 2 _ _ rfl rfl) 0 _ _ rfl rfl) 3 _ _ rfl (by go_num)) 9 _ _ rfl (by go_num)), ⟨H, ?_⟩, ?_⟩
      · omega
      · omega
    · -- no: (j : Int) < 8
      obtain rfl : j = 8 := by omega
      refine k_exit ?_
      refine k_here ?_
      refine s_region ?_
      refine s_do rfl rfl rfl (d_move rfl rfl) ?_
      refine s_do rfl rfl rfl (d_move rfl rfl) ?_
      refine s_do rfl rfl rfl (d_move rfl rfl) ?_
      refine s_do rfl rfl rfl (d_nilCheck rfl rfl) ?_
      refine s_do rfl rfl rfl (d_field rfl (k := 3) (r := 3) (by kernel_rfl) rfl rfl) ?_
      refine s_do rfl rfl rfl (d_indexA (l := 256) rfl (z := 1) (j := i) (r := 3 + i) (by kernel_rfl) rfl rfl rfl (by omega) (by omega)) ?_
      refine s_put rfl rfl (n_store 0 H rfl rfl rfl rfl (vs := [u32 (crcIt 8 (w32 (i : Int)))]) rfl (by simp [u32, Value.oneCell']) (by kernel_rfl) (by rw [tabC_len _ _ _ (by omega)]; simp; omega) (out := tabC x0 x1 x2 (i + 1)) (by have := tabC_step x0 x1 x2 hlt; simpa using this)) ?_
      rintro w H'
      have H : Sep z (blk pt (tabC x0 x1 x2 (i + 1)) 69 :: R) w := H'
      clear H'
      refine s_end ?_
      refine s_region ?_
      refine s_do rfl rfl rfl (d_add64 rfl rfl rfl (r := (i : Int) + 1) (by omega) (by omega)) ?_
      refine s_do rfl rfl rfl (d_move rfl rfl) ?_
      refine s_end ?_
      intro _ hF
      refine ⟨(i + 1), (hF.cons (hF.cons hF.nil 0 _ _ rfl rfl) 4 _ _ rfl (by go_num)), ⟨H, ?_⟩, ?_⟩
      · omega
      · omega
  · -- no: (i : Int) < 256
    refine k_exit ?_
    refine k_here ?_
    refine doneL rfl [] trivial (v := .tuple #[]) rfl ?_
    obtain rfl : i = 256 := by omega
    exact ⟨[blk pt (tabC x0 x1 x2 256) 69], ⟨rfl, rfl⟩, H⟩

theorem slow_c (pt : Nat) : Cn Tryz.prog 75 [.pointer (some ⟨pt, 0, none⟩), .func (.func 60) #[.pointer (some ⟨pt, 0, none⟩)] #[]] [blk pt (tabC (.int .u32 0) (.int .i32 0) (.int .u32 0) 0) 69] (fun v Γ => v = .tuple #[] ∧ Γ = [blk pt (tabC (.int .u32 1) (.int .i32 0) (.int .u32 0) 256) 69]) := by
  intro z R w H'
  have H : Sep z (blk pt (tabC (.int .u32 0) (.int .i32 0) (.int .u32 0) 0) 69 :: R) w := H'
  clear H'
  refine enterL Tryz.func75 rfl 21 Tryz.ntmps75 rfl ?_
  refine k_seq ?_
  refine s_region ?_
  refine s_do rfl rfl rfl (d_move rfl rfl) ?_
  refine s_do rfl rfl rfl (d_nilCheck rfl rfl) ?_
  refine s_do rfl rfl rfl (d_field rfl (k := 1) (r := 1) (by kernel_rfl) rfl rfl) ?_
  refine s_callC rfl rfl rfl rfl rfl (fun w => Tryz.call90 _ w) (lock_c _ _ _ _) H 1 [0] rfl rfl ?_
  rintro _ w _ ⟨rfl, rfl⟩ H'
  have H : Sep z (blk pt (tabC (.int .u32 0) (.int .i32 1) (.int .u32 0) 0) 69 :: R) w := H'
  clear H'
  refine s_end ?_
  refine k_seq ?_
  refine s_region ?_
  refine s_do rfl rfl rfl (d_move rfl rfl) ?_
  refine s_do rfl rfl rfl (d_nilCheck rfl rfl) ?_
  refine s_do rfl rfl rfl (d_field rfl (k := 1) (r := 1) (by kernel_rfl) rfl rfl) ?_
  refine s_defer rfl rfl rfl rfl ?_
  refine s_end ?_
  refine k_seq ?_
  refine s_region ?_
  refine s_do rfl rfl rfl (d_move rfl rfl) ?_
  refine s_do rfl rfl rfl (d_nilCheck rfl rfl) ?_
  refine s_do rfl rfl rfl (d_field rfl (k := 0) (r := 0) (by kernel_rfl) rfl rfl) ?_
  refine s_callC rfl rfl rfl rfl rfl (fun w => Tryz.call74 _ w) (bload0_c _ _ _ _) H 1 [0] rfl rfl ?_
  rintro _ w _ ⟨rfl, rfl⟩ H'
  have H : Sep z (blk pt (tabC (.int .u32 0) (.int .i32 1) (.int .u32 0) 0) 69 :: R) w := H'
  clear H'
  refine s_do rfl rfl rfl (d_not rfl rfl) ?_
  refine s_end ?_
  refine k_true rfl ?_
  refine k_seq ?_
  refine s_region ?_
  refine s_do rfl rfl rfl (d_move rfl rfl) ?_
  refine s_do rfl rfl rfl (d_nilCheck rfl rfl) ?_
  refine s_do rfl rfl rfl (d_field rfl (k := 0) (r := 0) (by kernel_rfl) rfl rfl) ?_
  refine s_defer rfl rfl rfl rfl ?_
  refine s_end ?_
  refine s_region ?_
  refine s_do rfl rfl rfl (d_move rfl rfl) ?_
  refine s_callB (bs := [.pointer (some ⟨pt, 0, none⟩)]) (vs := []) rfl rfl rfl rfl rfl rfl (fun w => Tryz.call60 _ w) (make_c pt (.int .u32 0) (.int .i32 1) (.int .u32 0)) H 1 [0] rfl rfl ?_
  rintro _ w _ ⟨rfl, rfl⟩ H'
  have H : Sep z (blk pt (tabC (.int .u32 0) (.int .i32 1) (.int .u32 0) 256) 69 :: R) w := H'
  clear H'
  refine s_end ?_
  intro a hF; unfold DoneL; rw [hF.defers]
  refine leaves_C (fun w => Tryz.call92 _ w) (bstore_d pt 256 (.int .i32 1) (.int .u32 0)) H 1 [0] rfl rfl ?_
  rintro _ w _ ⟨rfl, rfl⟩ H'; clear H
  have H : Sep z (blk pt (tabC (.int .u32 1) (.int .i32 1) (.int .u32 0) 256) 69 :: R) w := H'
  refine leaves_C (fun w => Tryz.call91 _ w) (unlock_d pt 256 (.int .u32 1) (.int .u32 0)) H 1 [0] rfl rfl ?_
  rintro _ w _ ⟨rfl, rfl⟩ H'
  exact doneN rfl ⟨_, ⟨rfl, rfl⟩, H'⟩

theorem do0_c (pt : Nat) : Cn Tryz.prog 59 [.pointer (some ⟨pt, 0, none⟩), .func (.func 60) #[.pointer (some ⟨pt, 0, none⟩)] #[]] [blk pt (tabC (.int .u32 0) (.int .i32 0) (.int .u32 0) 0) 69] (fun v Γ => v = .tuple #[] ∧ Γ = [blk pt (tabC (.int .u32 1) (.int .i32 0) (.int .u32 0) 256) 69]) := by
  intro z R w H'
  have H : Sep z (blk pt (tabC (.int .u32 0) (.int .i32 0) (.int .u32 0) 0) 69 :: R) w := H'
  clear H'
  refine enter Tryz.func59 rfl 12 Tryz.ntmps59 rfl ?_
  refine k_seq ?_
  refine s_region ?_
  refine s_do rfl rfl rfl (d_move rfl rfl) ?_
  refine s_do rfl rfl rfl (d_nilCheck rfl rfl) ?_
  refine s_do rfl rfl rfl (d_field rfl (k := 0) (r := 0) (by kernel_rfl) rfl rfl) ?_
  refine s_callC rfl rfl rfl rfl rfl (fun w => Tryz.call74 _ w) (bload0_c _ _ _ _) H 1 [0] rfl rfl ?_
  rintro _ w _ ⟨rfl, rfl⟩ H'
  have H : Sep z (blk pt (tabC (.int .u32 0) (.int .i32 0) (.int .u32 0) 0) 69 :: R) w := H'
  clear H'
  refine s_do rfl rfl rfl (d_not rfl rfl) ?_
  refine s_end ?_
  refine k_true rfl ?_
  refine s_region ?_
  refine s_do rfl rfl rfl (d_move rfl rfl) ?_
  refine s_do rfl rfl rfl (d_move rfl rfl) ?_
  refine s_callC rfl rfl rfl rfl rfl (fun w => Tryz.call75 _ w) (slow_c _) H 1 [0] rfl rfl ?_
  rintro _ w _ ⟨rfl, rfl⟩ H'
  have H : Sep z (blk pt (tabC (.int .u32 1) (.int .i32 0) (.int .u32 0) 256) 69 :: R) w := H'
  clear H'
  refine s_end ?_
  refine doneL rfl [] trivial (v := .tuple #[]) rfl ?_
  exact ⟨[blk pt (tabC (.int .u32 1) (.int .i32 0) (.int .u32 0) 256) 69], ⟨rfl, rfl⟩, H⟩

theorem do1_c (pt : Nat) : Cn Tryz.prog 59 [.pointer (some ⟨pt, 0, none⟩), .func (.func 60) #[.pointer (some ⟨pt, 0, none⟩)] #[]] [blk pt (tabC (.int .u32 1) (.int .i32 0) (.int .u32 0) 256) 69] (fun v Γ => v = .tuple #[] ∧ Γ = [blk pt (tabC (.int .u32 1) (.int .i32 0) (.int .u32 0) 256) 69]) := by
  intro z R w H'
  have H : Sep z (blk pt (tabC (.int .u32 1) (.int .i32 0) (.int .u32 0) 256) 69 :: R) w := H'
  clear H'
  refine enter Tryz.func59 rfl 12 Tryz.ntmps59 rfl ?_
  refine k_seq ?_
  refine s_region ?_
  refine s_do rfl rfl rfl (d_move rfl rfl) ?_
  refine s_do rfl rfl rfl (d_nilCheck rfl rfl) ?_
  refine s_do rfl rfl rfl (d_field rfl (k := 0) (r := 0) (by kernel_rfl) rfl rfl) ?_
  refine s_callC rfl rfl rfl rfl rfl (fun w => Tryz.call74 _ w) (bload1_c _ _ _ _) H 1 [0] rfl rfl ?_
  rintro _ w _ ⟨rfl, rfl⟩ H'
  have H : Sep z (blk pt (tabC (.int .u32 1) (.int .i32 0) (.int .u32 0) 256) 69 :: R) w := H'
  clear H'
  refine s_do rfl rfl rfl (d_not rfl rfl) ?_
  refine s_end ?_
  refine k_false rfl ?_
  refine k_skip ?_
  refine doneL rfl [] trivial (v := .tuple #[]) rfl ?_
  exact ⟨[blk pt (tabC (.int .u32 1) (.int .i32 0) (.int .u32 0) 256) 69], ⟨rfl, rfl⟩, H⟩

theorem do_c (pt : Nat) : Cn Tryz.prog 59 [.pointer (some ⟨pt, 0, none⟩), .func (.func 60) #[.pointer (some ⟨pt, 0, none⟩)] #[]] [tblA pt] (fun v Γ => v = .tuple #[] ∧ Γ = [blk pt (tabC (.int .u32 1) (.int .i32 0) (.int .u32 0) 256) 69]) := Cn.or (do0_c pt) (do1_c pt)

theorem crcnew_c  : Cn Tryz.prog 5 [] [] (fun v Γ => (∃ pt, v = .pointer (some ⟨pt, 0, none⟩) ∧ Γ = [tblA pt])) := by
  intro z R w H'
  have H : Sep z (R) w := H'
  clear H'
  refine enter Tryz.func5 rfl 3 Tryz.ntmps5 rfl ?_
  refine k_seq ?_
  refine s_region ?_
  refine s_do rfl rfl rfl (d_assign rfl rfl) ?_
  refine s_end ?_
  refine k_seq ?_
  refine s_region ?_
  refine s_do rfl rfl rfl (d_build rfl rfl (out := (tabC (.int .u32 0) (.int .i32 0) (.int .u32 0) 0)) (by kernel_rfl)) ?_
  refine s_go rfl rfl rfl (n_box H rfl rfl (cs := (tabC (.int .u32 0) (.int .i32 0) (.int .u32 0) 0)) rfl) ?_
  rintro _ w ⟨b1, rfl, H'⟩
  have H : Sep z (blk b1 (tabC (.int .u32 0) (.int .i32 0) (.int .u32 0) 0) 69 :: R) w := H'
  clear H'
  refine s_do rfl rfl rfl (d_assign rfl rfl) ?_
  refine s_end ?_
  refine k_ret ?_
  refine doneL rfl [.pointer (some ⟨b1, 0, none⟩)] ⟨rfl, trivial⟩ (v := .pointer (some ⟨b1, 0, none⟩)) rfl ?_
  have H := H.mono 0 (B := tblA b1) rfl (fun h q => .inl q)
  exact ⟨[tblA b1], ⟨b1, rfl, rfl⟩, H⟩

theorem more_c (pt : Nat) (sum : UInt32) (v : Value) (bs : List UInt8) (A : Asn) (hA : ∀ h, A h → rdH 1 v bs.length (bs.map u8) h) : Cn Tryz.prog 45 [.pointer (some ⟨pt, 0, none⟩), u32 sum, v] [tblA pt, A] (fun v Γ => v = u32 (crcMore sum bs) ∧ Γ = [tblA pt, A]) := by
  intro z R w H'
  have H : Sep z (tblA pt :: A :: R) w := H'
  clear H'
  obtain ⟨ao, c, rfl⟩ := H.says 1 rfl (fun h q => (hA h q).slc)
  have hbm := H.says 1 rfl (fun h q => (hA h q).small)
  refine enter Tryz.func45 rfl 39 Tryz.ntmps45 rfl ?_
  refine k_seq ?_
  refine s_region ?_
  refine s_do rfl rfl rfl (d_assign rfl rfl) ?_
  refine s_end ?_
  refine k_seq ?_
  refine s_region ?_
  refine s_do rfl rfl rfl (d_move rfl rfl) ?_
  refine s_do rfl rfl rfl (d_nilCheck rfl rfl) ?_
  refine s_do rfl rfl rfl (d_field rfl (k := 0) (r := 0) (by kernel_rfl) rfl rfl) ?_
  refine s_do rfl rfl rfl (d_move rfl rfl) ?_
  refine s_do rfl rfl rfl (d_makeFunc rfl rfl rfl) ?_
  refine s_callC rfl rfl rfl rfl rfl (fun w => Tryz.call59 _ w) (do_c _) H 1 [0] rfl rfl ?_
  rintro _ w _ ⟨rfl, rfl⟩ H'
  have H : Sep z (blk pt (tabC (.int .u32 1) (.int .i32 0) (.int .u32 0) 256) 69 :: A :: R) w := H'
  clear H'
  refine s_end ?_
  refine k_seq ?_
  refine s_region ?_
  refine s_do rfl rfl rfl (d_move rfl rfl) ?_
  refine s_do rfl rfl rfl (d_not32 rfl rfl) ?_
  refine s_do rfl rfl rfl (d_assign rfl rfl) ?_
  refine s_end ?_
  refine k_seq ?_
  refine k_seq ?_
  refine s_region ?_
  refine s_do rfl rfl rfl (d_move rfl rfl) ?_
  refine s_do rfl rfl rfl (d_len rfl (z := 1) (by kernel_rfl) rfl) ?_
  refine s_do rfl rfl rfl (d_move rfl rfl) ?_
  refine s_end ?_
  refine k_block ?_
  refine c_loop (σ := Nat) (fun k => [(20, .int .i64 (k : Int)), (7, u32 ((bs.take k).foldl crcByte (4294967295 ^^^ sum))), (0, .pointer (some ⟨pt, 0, none⟩)), (6, u32 0), (18, .slice ao bs.length c), (19, .int .i64 (bs.length : Int))])
    (fun k w => Sep z (blk pt (tabC (.int .u32 1) (.int .i32 0) (.int .u32 0) 256) 69 :: A :: R) w ∧ (k ≤ bs.length)) (fun k => bs.length - k) 0
    (fun _ hF => (hF.cons (hF.cons (hF.cons (hF.cons (hF.cons (hF.cons hF.nil 19 _ _ rfl rfl) 18 _ _ rfl rfl) 6 _ _ rfl rfl) 0 _ _ rfl rfl) 7 _ _ rfl (by go_num)) 20 _ _ rfl (by go_num))) ⟨H, by omega⟩ ?_
  clear H; rintro k w ⟨H', hI⟩
  have H : Sep z (blk pt (tabC (.int .u32 1) (.int .i32 0) (.int .u32 0) 256) 69 :: A :: R) w := H'
  clear H'
  have hk := hI; clear hI
  refine k_seq ?_
  refine s_region ?_
  refine s_do rfl rfl rfl (d_lss rfl rfl rfl) ?_
  refine s_end ?_
  refine k_seq ?_
  refine k_dec rfl (fun h1 => ?_) (fun h1 => ?_)
  · -- yes: (k : Int) < (bs.length : Int)
    obtain ⟨b, hb⟩ : ∃ b, bs[k]? = some b := ⟨_, List.getElem?_eq_getElem (by omega)⟩
    refine k_skip ?_
    refine k_seq ?_
    refine k_block ?_
    refine k_seq ?_
    refine s_region ?_
    have hat := (H.rd 1 rfl hA).at (j := k) (u := u8 b) (by simp [hb])
    refine s_do rfl rfl rfl (d_indexE rfl (z := 1) (j := k) (r := k) (by kernel_rfl) rfl rfl rfl (by omega) hat (by omega)) ?_
    refine s_do rfl rfl rfl (d_loadE rfl rfl (by kernel_rfl) (here hat)) ?_
    refine s_do rfl rfl rfl (d_assign rfl rfl) ?_
    refine s_end ?_
    refine s_region ?_
    refine s_do rfl rfl rfl (d_move rfl rfl) ?_
    refine s_do rfl rfl rfl (d_shr32 rfl rfl (m := 8) (n' := 8) rfl (by decide)) ?_
    refine s_do rfl rfl rfl (d_move rfl rfl) ?_
    refine s_do rfl rfl rfl (d_move rfl rfl) ?_
    refine s_do rfl rfl rfl (d_32to8 rfl (by kernel_rfl) rfl) ?_
    refine s_do rfl rfl rfl (d_move rfl rfl) ?_
    refine s_do rfl rfl rfl (d_xor8 rfl rfl rfl) ?_
    refine s_do rfl rfl rfl (d_nilCheck rfl rfl) ?_
    refine s_do rfl rfl rfl (d_field rfl (k := 3) (r := 3) (by kernel_rfl) rfl rfl) ?_
    refine s_do rfl rfl rfl (d_indexA (l := 256) rfl (z := 1) (j := ((((bs.take k).foldl crcByte (4294967295 ^^^ sum)).toUInt8) ^^^ b).toNat) (r := 3 + (((bs.take k).foldl crcByte (4294967295 ^^^ sum)).toUInt8 ^^^ b).toNat) (by kernel_rfl) rfl rfl rfl (UInt8.toNat_lt _) (by omega)) ?_
    refine s_do rfl rfl rfl (d_load rfl rfl (by kernel_rfl) (here (H.cel 0 rfl _ (tabC_word _ _ _ _)))) ?_
    refine s_do rfl rfl rfl (d_xor32 rfl rfl rfl) ?_
    refine s_do rfl rfl rfl (d_assign rfl rfl) ?_
    refine s_end ?_
    refine s_region ?_
    refine s_do rfl rfl rfl (d_add64 rfl rfl rfl (r := (k : Int) + 1) (by omega) (by omega)) ?_
    refine s_do rfl rfl rfl (d_move rfl rfl) ?_
    refine s_end ?_
    intro _ hF
    refine ⟨(k + 1), (hF.cons (hF.cons (hF.cons (hF.cons (hF.cons (hF.cons hF.nil 19 _ _ rfl rfl) 18 _ _ rfl rfl) 6 _ _ rfl rfl) 0 _ _ rfl rfl) 7 _ _ rfl (congrArg u32 (by rw [List.take_add_one, hb]; simp [crcByte]))) 20 _ _ rfl (by go_num)), ⟨H, ?_⟩, ?_⟩
    · omega
    · omega
  · -- no: (k : Int) < (bs.length : Int)
    refine k_exit ?_
    refine k_here ?_
    refine k_seq ?_
    refine s_region ?_
    refine s_do rfl rfl rfl (d_move rfl rfl) ?_
    refine s_do rfl rfl rfl (d_not32 rfl rfl) ?_
    refine s_do rfl rfl rfl (d_assign rfl rfl) ?_
    refine s_end ?_
    refine k_ret ?_
    refine doneL rfl [u32 (4294967295 ^^^ ((bs.take k).foldl crcByte (4294967295 ^^^ sum)))] ⟨rfl, trivial⟩ (v := u32 (4294967295 ^^^ ((bs.take k).foldl crcByte (4294967295 ^^^ sum)))) rfl ?_
    obtain rfl : k = bs.length := by omega
    have H := H.mono 0 (B := tblA pt) rfl (fun h q => .inr q)
    exact ⟨[tblA pt, A], ⟨congrArg u32 (by simp [crcMore]), rfl⟩, H⟩
end Go.Proofs.YtanejicgmgpjcaaGreatDoor
