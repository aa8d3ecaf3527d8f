/-
  Steps to: A crash in the middle of a move leaves the log where it was or where it was asked to, and all that was synced. No condition.
-/
import Derived.Test.YtbegkbjigbkljaaGreatDoorPart2
import Derived.Test.YtbegkbjigbkljaaGreatDoorCards
import Derived.Test.YtbegkbjigbkljaaGreatDoorTie
import Derived.WalkKit
import Derived.WalkSpells
import Derived.Deep.Quiet
import Derived.KernelRfl
import Derived.IntWalk
import Derived.Maps.AppendAt
import Derived.Laws.AppendOwnNone
import Derived.Laws.CopyRow
import Derived.StillTail
import Derived.Deep.RegionHeld
import Derived.Laws.IdiomStrings
import Derived.Laws.BytesArg
import Derived.Laws.OwnMore
import Derived.Lib.Strings
import Derived.ArgAppend
import Derived.RangeFuncLeaves
import Derived.RangeFuncRecord
import Derived.RangeFuncCalls
import Derived.RangeFuncSeq
import Derived.OrdersIn
import Derived.TacticsIn
import Derived.Laws.IdiomRangeMap
import Derived.Defers
import Derived.Laws.LoneSync
import Derived.LoopN
import Derived.Test.YtbegkbjigbkljaaGreatDoorRows
import Derived.Test.YtbegkbjigbkljaaGreatDoorProg
import Derived.Shelf.Sort.Plain
import Derived.Shelf.Slices.In.SortNone
import Derived.DataReads
import Derived.ProofKit
import Derived.OpenShut
import Derived.Lib.SmallJoins
import Derived.Deep.DeepHandedRow
import Derived.Lib.LaidTab
set_option maxRecDepth 100000
set_option linter.unusedSimpArgs false
set_option linter.unusedVariables false
namespace Go.Proofs.YtbegkbjigbkljaaGreatDoor
open Go.RowKit
theorem check_c (s : Sup) (n : Int) (hn : 0 ≤ n ∧ n ≤ 1152921504606846976) : Cn Tryz.prog 50 [.agg #[.int .i64 s.gen, .int .i64 s.epoch, .int .i64 s.pages, .int .i64 s.start, .int .i64 s.len, .int .i64 s.head, .int .i64 s.seq], .int .i64 n] [] (fun v Γ => v = .int .i64 (if s.Ok n then 0 else 1) ∧ Γ = []) := by
 intro z R w H'; have H : Sep z (R) w := H'
 clear H'; refine enter Tryz.func50 rfl 75 Tryz.ntmps50 rfl (k_seq (s_region (s_go rfl rfl rfl (n_box H rfl rfl (cs := [.int .i64 s.gen, .int .i64 s.epoch, .int .i64 s.pages, .int .i64 s.start, .int .i64 s.len, .int .i64 s.head, .int .i64 s.seq]) rfl) ?_))); rintro _ w ⟨b1, rfl, H'⟩; have H := H'.l1; clear H'; refine s_M 1 rfl rfl (s_end (k_seq (k_seq (s_region (s_L 14 [0, 0, 1, 0, 2, 0, 3, 0, 4, 0, 5, 0, 6, 0] (mm1 (H.blk 0 rfl) mm0) rfl (by kernel_rfl) rfl (s_do rfl rfl rfl (d_build rfl rfl (out := [.int .i64 s.gen, .int .i64 s.epoch, .int .i64 s.pages, .int .i64 s.start, .int .i64 s.len, .int .i64 s.head, .int .i64 s.seq]) (by kernel_rfl)) (s_M 1 rfl rfl (s_end (k_block ?_))))))))); refine c_loop (σ := Nat) (fun k => [(22, .int .i64 (k : Int)), (1, .int .i64 n), (2, .pointer (some ⟨b1, 0, none⟩)), (21, .agg #[.int .i64 s.gen, .int .i64 s.epoch, .int .i64 s.pages, .int .i64 s.start, .int .i64 s.len, .int .i64 s.head, .int .i64 s.seq])])
   (fun k w => Sep z (blk b1 [.int .i64 s.gen, .int .i64 s.epoch, .int .i64 s.pages, .int .i64 s.start, .int .i64 s.len, .int .i64 s.head, .int .i64 s.seq] 49 :: R) w ∧ (k ≤ 7 ∧ ∀ (j : Nat) (x : Int), j < k → s.list[j]? = some x → 0 ≤ x ∧ x ≤ 1099511627776)) (fun k => 7 - k) 0
   (fun _ hF => (hF.co rfl (by go_num) (hF.all rfl))) ⟨H, by omega, fun j x h => by omega⟩ ?_
 clear H; rintro k w ⟨H', hI⟩; have H := H'.l1; clear H'; obtain ⟨hk7, hall⟩ := hI; refine k_seq (s_region (s_M 1 rfl rfl (s_end (k_seq (k_dec rfl (fun h1 => ?_) (fun h1 => ?_))))))
 ·refine k_skip (k_seq (k_block (k_seq (s_region ?_)))); obtain ⟨x, hx⟩ : ∃ x, s.list[k]? = some x := ⟨_, List.getElem?_eq_getElem (by simp [Sup.list]; omega)⟩; refine s_do rfl rfl rfl (d_indexV rfl (by kernel_rfl) rfl (l := s.list) (j := k) rfl rfl rfl rfl hx) (s_M 1 rfl rfl (s_end (k_seq (s_region (s_M 3 rfl rfl (s_part 27 rfl (fun h2 => ?_) (fun h2 => ?_)))))))
  ·refine s_M 3 rfl rfl (s_end (k_true rfl (k_seq (s_region (s_M 1 rfl rfl (s_end (k_ret (doneL rfl [.int .i64 1] ⟨rfl, trivial⟩ (v := .int .i64 1) rfl ?_)))))))); have hok : ¬ s.Ok n := fun ⟨q, q1, q2, q3, q4, q5, q6, q7⟩ => by
     first | omega | (have := q x (List.mem_of_getElem? hx); omega)
   exact ⟨[], ⟨congrArg (Value.int .i64) (by rw [if_neg hok]), rfl⟩, H.perm 1 [] rfl rfl⟩
  ·refine s_M 3 rfl rfl (s_end (k_dec rfl (fun h3 => ?_) (fun h3 => ?_)))
   ·refine k_seq (s_region (s_M 1 rfl rfl (s_end (k_ret (doneL rfl [.int .i64 1] ⟨rfl, trivial⟩ (v := .int .i64 1) rfl ?_))))); have hok : ¬ s.Ok n := fun ⟨q, q1, q2, q3, q4, q5, q6, q7⟩ => by
      first | omega | (have := q x (List.mem_of_getElem? hx); omega)
    exact ⟨[], ⟨congrArg (Value.int .i64) (by rw [if_neg hok]), rfl⟩, H.perm 1 [] rfl rfl⟩
   ·refine k_skip (s_region (s_do rfl rfl rfl (d_add64 rfl rfl rfl (r := (k : Int) + 1) (by omega) (by omega)) (s_M 1 rfl rfl (s_end ?_)))); intro _ hF; refine ⟨(k + 1), (hF.co rfl (by go_num) (hF.all rfl)), ⟨H, ?_⟩, ?_⟩
    ·refine ⟨by omega, fun j y hj hy => ?_⟩; rcases Nat.lt_or_ge j k with h | h
     ·exact hall j y h hy
     ·obtain rfl : j = k := by omega
      rw [hx] at hy; cases hy; omega
    ·omega
 ·obtain rfl : k = 7 := by omega
  have hg := hall 0 s.gen (by omega) rfl
  have hp := hall 2 s.pages (by omega) rfl
  have hs := hall 3 s.start (by omega) rfl
  have hl := hall 4 s.len (by omega) rfl
  have hh := hall 5 s.head (by omega) rfl
  refine k_exit (k_here (k_seq (k_seq (s_region (s_L 4 [2, 0] (mm1 (H.blk 0 rfl) mm0) rfl (by kernel_rfl) rfl (s_part 35 rfl (fun h4 => ?_) (fun h4 => ?_)))))))
  ·refine s_M 39 rfl rfl (s_end (k_true rfl (k_seq (s_region (s_M 1 rfl rfl (s_end (k_ret (doneL rfl [.int .i64 1] ⟨rfl, trivial⟩ (v := .int .i64 1) rfl ?_)))))))); have hok : ¬ s.Ok n := fun ⟨q, q1, q2, q3, q4, q5, q6, q7⟩ => by
     first | omega | (have := q x (List.mem_of_getElem? hx); omega)
   exact ⟨[], ⟨congrArg (Value.int .i64) (by rw [if_neg hok]), rfl⟩, H.perm 1 [] rfl rfl⟩
  ·refine s_L 5 [2, 0] (mm1 (H.blk 0 rfl) mm0) rfl (by kernel_rfl) rfl (s_part 40 rfl (fun h5 => ?_) (fun h5 => ?_))
   ·refine s_M 34 rfl rfl (s_end (k_true rfl (k_seq (s_region (s_M 1 rfl rfl (s_end (k_ret (doneL rfl [.int .i64 1] ⟨rfl, trivial⟩ (v := .int .i64 1) rfl ?_)))))))); have hok : ¬ s.Ok n := fun ⟨q, q1, q2, q3, q4, q5, q6, q7⟩ => by
      first | omega | (have := q x (List.mem_of_getElem? hx); omega)
    exact ⟨[], ⟨congrArg (Value.int .i64) (by rw [if_neg hok]), rfl⟩, H.perm 1 [] rfl rfl⟩
   ·refine s_L 4 [3, 0, 2, 0] (mm1 (H.blk 0 rfl) mm0) rfl (by kernel_rfl) rfl (s_do rfl rfl rfl (d_add64 rfl rfl rfl (r := 2 + s.pages) (by omega) (by omega)) (s_M 3 rfl rfl (s_part 48 rfl (fun h6 => ?_) (fun h6 => ?_))))
    ·refine s_M 26 rfl rfl (s_end (k_true rfl (k_seq (s_region (s_M 1 rfl rfl (s_end (k_ret (doneL rfl [.int .i64 1] ⟨rfl, trivial⟩ (v := .int .i64 1) rfl ?_)))))))); have hok : ¬ s.Ok n := fun ⟨q, q1, q2, q3, q4, q5, q6, q7⟩ => by
       first | omega | (have := q x (List.mem_of_getElem? hx); omega)
     exact ⟨[], ⟨congrArg (Value.int .i64) (by rw [if_neg hok]), rfl⟩, H.perm 1 [] rfl rfl⟩
    ·refine s_L 5 [4, 0] (mm1 (H.blk 0 rfl) mm0) rfl (by kernel_rfl) rfl (s_part 53 rfl (fun h7 => ?_) (fun h7 => ?_))
     ·refine s_M 21 rfl rfl (s_end (k_true rfl (k_seq (s_region (s_M 1 rfl rfl (s_end (k_ret (doneL rfl [.int .i64 1] ⟨rfl, trivial⟩ (v := .int .i64 1) rfl ?_)))))))); have hok : ¬ s.Ok n := fun ⟨q, q1, q2, q3, q4, q5, q6, q7⟩ => by
        first | omega | (have := q x (List.mem_of_getElem? hx); omega)
      exact ⟨[], ⟨congrArg (Value.int .i64) (by rw [if_neg hok]), rfl⟩, H.perm 1 [] rfl rfl⟩
     ·refine s_L 5 [3, 0, 4, 0] (mm1 (H.blk 0 rfl) mm0) rfl (by kernel_rfl) rfl (s_do rfl rfl rfl (d_sub64 rfl rfl rfl (r := n - s.len) (by omega) (by omega)) (s_M 3 rfl rfl (s_part 62 rfl (fun h8 => ?_) (fun h8 => ?_))))
      ·refine s_M 12 rfl rfl (s_end (k_true rfl (k_seq (s_region (s_M 1 rfl rfl (s_end (k_ret (doneL rfl [.int .i64 1] ⟨rfl, trivial⟩ (v := .int .i64 1) rfl ?_)))))))); have hok : ¬ s.Ok n := fun ⟨q, q1, q2, q3, q4, q5, q6, q7⟩ => by
         first | omega | (have := q x (List.mem_of_getElem? hx); omega)
       exact ⟨[], ⟨congrArg (Value.int .i64) (by rw [if_neg hok]), rfl⟩, H.perm 1 [] rfl rfl⟩
      ·refine s_L 6 [4, 0] (mm1 (H.blk 0 rfl) mm0) rfl (by kernel_rfl) rfl (s_part 68 rfl (fun h9 => ?_) (fun h9 => ?_))
       ·refine s_M 6 rfl rfl (s_end (k_true rfl (k_seq (s_region (s_M 1 rfl rfl (s_end (k_ret (doneL rfl [.int .i64 1] ⟨rfl, trivial⟩ (v := .int .i64 1) rfl ?_)))))))); have hok : ¬ s.Ok n := fun ⟨q, q1, q2, q3, q4, q5, q6, q7⟩ => by
          first | omega | (have := q x (List.mem_of_getElem? hx); omega)
        exact ⟨[], ⟨congrArg (Value.int .i64) (by rw [if_neg hok]), rfl⟩, H.perm 1 [] rfl rfl⟩
       ·refine s_L 6 [5, 0, 4, 0] (mm1 (H.blk 0 rfl) mm0) rfl (by kernel_rfl) rfl (s_end (k_dec rfl (fun h10 => ?_) (fun h10 => ?_)))
        ·refine k_seq (s_region (s_M 1 rfl rfl (s_end (k_ret (doneL rfl [.int .i64 1] ⟨rfl, trivial⟩ (v := .int .i64 1) rfl ?_))))); have hok : ¬ s.Ok n := fun ⟨q, q1, q2, q3, q4, q5, q6, q7⟩ => by
           first | omega | (have := q x (List.mem_of_getElem? hx); omega)
         exact ⟨[], ⟨congrArg (Value.int .i64) (by rw [if_neg hok]), rfl⟩, H.perm 1 [] rfl rfl⟩
        ·refine k_skip (k_seq (s_region (s_M 1 rfl rfl (s_end (k_ret (doneL rfl [.int .i64 0] ⟨rfl, trivial⟩ (v := .int .i64 0) rfl ?_)))))); have hok : s.Ok n := ⟨fun x hx => by
           obtain ⟨j, hj, rfl⟩ := List.mem_iff_getElem.1 hx
           exact hall j _ (by simp [Sup.list] at hj; omega) (List.getElem?_eq_getElem hj)
           , by omega, by omega, by omega, by omega, by omega, by omega, by omega⟩
         exact ⟨[], ⟨congrArg (Value.int .i64) (by rw [if_pos hok]), rfl⟩, H.perm 1 [] rfl rfl⟩
theorem room_c (pl pd pt : Nat) (s : Sup) (at_ sq us : Int) (br nu : Bool) (hb : -9223372036854775808 ≤ s.len - us ∧ s.len - us ≤ 9223372036854775807) : Cn Tryz.prog 128 [.pointer (some ⟨pl, 0, none⟩)] [lgB pl pd pt s at_ sq us br nu] (fun v Γ => v = .int .i64 (if br then 0 else s.len - us) ∧ Γ = [lgB pl pd pt s at_ sq us br nu]) := by
 intro z R w H'; have H : Sep z (lgB pl pd pt s at_ sq us br nu :: R) w := H'
 clear H'; refine enter Tryz.func128 rfl 17 Tryz.ntmps128 rfl (k_seq (s_region (s_M 1 rfl rfl (s_end (k_seq (k_seq (s_region (s_L 4 [12, 0] (mm1 (H.blk 0 rfl) mm0) rfl (by kernel_rfl) rfl (s_end (k_cond rfl (fun h1 => ?_) (fun h1 => ?_)))))))))))
 ·refine k_seq (s_region (s_M 1 rfl rfl (s_end (k_ret (doneL rfl [.int .i64 0] ⟨rfl, trivial⟩ (v := .int .i64 0) rfl ?_))))); exact ⟨[lgB pl pd pt s at_ sq us br nu], ⟨congrArg (Value.int .i64) (by simp_all), rfl⟩, H⟩
 ·refine k_skip (k_seq (q_region (Sep z _) (by kernel_rfl) (by kernel_rfl) H.drew (q_L 9 [2, 6, 0, 11, 0] (fun _ hx => (mm1 (hx.blk 0 rfl) mm0)) rfl (by kernel_rfl) rfl (q_do rfl rfl rfl (d_sub64 rfl rfl rfl (r := s.len - us) (by omega) (by omega)) (q_M 1 [] rfl (by kernel_rfl) (q_end (fun w H' => ?_))))))); have H := H'.l1; clear H'; refine k_ret (doneL rfl [.int .i64 (s.len - us)] ⟨rfl, trivial⟩ (v := .int .i64 (s.len - us)) rfl ?_); exact ⟨[lgB pl pd pt s at_ sq us br nu], ⟨congrArg (Value.int .i64) (by simp_all), rfl⟩, H⟩
theorem tail_c (pl pd pt : Nat) (s : Sup) (at_ sq us : Int) (br nu : Bool) : Cn Tryz.prog 129 [.pointer (some ⟨pl, 0, none⟩)] [lgB pl pd pt s at_ sq us br nu] (fun v Γ => v = .tuple #[.int .i64 at_, .int .i64 sq] ∧ Γ = [lgB pl pd pt s at_ sq us br nu]) := by
 intro z R w H'; have H : Sep z (lgB pl pd pt s at_ sq us br nu :: R) w := H'
 clear H'; refine enter Tryz.func129 rfl 12 Tryz.ntmps129 rfl (k_seq (s_region (s_M 2 rfl rfl (s_end (k_seq (q_region (Sep z _) (by kernel_rfl) (by kernel_rfl) H.drew (q_L 10 [9, 0, 10, 0] (fun _ hx => (mm1 (hx.blk 0 rfl) mm0)) rfl (by kernel_rfl) rfl (q_end (fun w H' => ?_))))))))); have H := H'.l1; clear H'; refine k_ret (doneL rfl [.int .i64 at_, .int .i64 sq] ⟨rfl, ⟨rfl, trivial⟩⟩ (v := .tuple #[.int .i64 at_, .int .i64 sq]) rfl ?_); exact ⟨[lgB pl pd pt s at_ sq us br nu], ⟨rfl, rfl⟩, H⟩
theorem drop_c (pl pd pt : Nat) (s : Sup) (at_ sq us : Int) (br nu : Bool) : Cn Tryz.prog 130 [.pointer (some ⟨pl, 0, none⟩)] [lgB pl pd pt s at_ sq us br nu] (fun v Γ => v = .tuple #[] ∧ Γ = [lgB pl pd pt s at_ sq 0 false nu]) := by
 intro z R w H'; have H : Sep z (lgB pl pd pt s at_ sq us br nu :: R) w := H'
 clear H'; refine enter Tryz.func130 rfl 8 Tryz.ntmps130 rfl (k_seq (s_region (s_Q 3 [11] rfl (by kernel_rfl) (s_put rfl rfl (n_store 0 H rfl rfl rfl rfl (vs := [.int .i64 0]) rfl (by simp [u8, u32, Value.oneCell']) (by kernel_rfl) (by simp) (out := [.pointer (some ⟨pd, 0, none⟩), .pointer (some ⟨pt, 0, none⟩), .int .i64 s.gen, .int .i64 s.epoch, .int .i64 s.pages, .int .i64 s.start, .int .i64 s.len, .int .i64 s.head, .int .i64 s.seq, .int .i64 at_, .int .i64 sq, .int .i64 0, .bool br, .bool nu]) rfl) ?_)))); rintro w H'; have H := H'.l1; clear H'; refine s_end (s_region (s_Q 3 [12] rfl (by kernel_rfl) (s_put rfl rfl (n_store 0 H rfl rfl rfl rfl (vs := [.bool false]) rfl (by simp [u8, u32, Value.oneCell']) (by kernel_rfl) (by simp) (out := [.pointer (some ⟨pd, 0, none⟩), .pointer (some ⟨pt, 0, none⟩), .int .i64 s.gen, .int .i64 s.epoch, .int .i64 s.pages, .int .i64 s.start, .int .i64 s.len, .int .i64 s.head, .int .i64 s.seq, .int .i64 at_, .int .i64 sq, .int .i64 0, .bool false, .bool nu]) rfl) ?_))); rintro w H'; have H := H'.l1; clear H'; refine s_end (doneL rfl [] trivial (v := .tuple #[]) rfl ?_); exact ⟨[lgB pl pd pt s at_ sq 0 false nu], ⟨rfl, rfl⟩, H⟩
theorem passed_c (pl pd pt : Nat) (s : Sup) (at_ sq us : Int) (br nu : Bool) (n : Int) (ha : 0 ≤ at_ ∧ at_ ≤ 1099511627776) (hn : 0 ≤ n ∧ n ≤ 1099511627776) (hl : 0 < s.len) (hs : 0 ≤ sq ∧ sq ≤ 2199023255552) (hu : 0 ≤ us ∧ us ≤ 2199023255552) : Cn Tryz.prog 106 [.pointer (some ⟨pl, 0, none⟩), .int .i64 n] [lgB pl pd pt s at_ sq us br nu] (fun v Γ => v = .tuple #[] ∧ Γ = [lgB pl pd pt s ((at_ + n) % s.len) (sq + 1) (us + n) br nu]) := by
 intro z R w H'; have H : Sep z (lgB pl pd pt s at_ sq us br nu :: R) w := H'
 clear H'; refine enter Tryz.func106 rfl 34 Tryz.ntmps106 rfl (k_seq (t_region 15 (by kernel_rfl) (by kernel_rfl) (fun w' x' _ => ?_))); have H' := H.ext0 x'; clear x' H; revert H'; generalize w' = w; intro H'
 have H := H'.l1; clear H'; refine t_L 6 [9, 0] (mm1 (H.blk 0 rfl) mm0) rfl (by kernel_rfl) rfl (t_do rfl rfl rfl (d_add64 rfl rfl rfl (r := at_ + n) (by omega) (by omega)) (t_L 5 [2, 6, 0] (mm1 (H.blk 0 rfl) mm0) rfl (by kernel_rfl) rfl (t_do rfl rfl rfl (d_rem64 rfl rfl rfl (r := (at_ + n) % s.len) (by omega) (by omega) (by omega)) (t_M 2 [9] rfl (by kernel_rfl) (t_end (s_put rfl rfl (n_store 0 H rfl rfl rfl rfl (vs := [.int .i64 ((at_ + n) % s.len)]) rfl (by simp [u8, u32, Value.oneCell']) (by kernel_rfl) (by simp) (out := [.pointer (some ⟨pd, 0, none⟩), .pointer (some ⟨pt, 0, none⟩), .int .i64 s.gen, .int .i64 s.epoch, .int .i64 s.pages, .int .i64 s.start, .int .i64 s.len, .int .i64 s.head, .int .i64 s.seq, .int .i64 ((at_ + n) % s.len), .int .i64 sq, .int .i64 us, .bool br, .bool nu]) rfl) ?_)))))); rintro w H'; have H := H'.l1; clear H'; refine s_end (k_seq (s_region (s_L 4 [10, 0] (mm1 (H.blk 0 rfl) mm0) rfl (by kernel_rfl) rfl (s_do rfl rfl rfl (d_add64 rfl rfl rfl (r := sq + 1) (by omega) (by omega)) (s_Q 2 [10] rfl (by kernel_rfl) (s_put rfl rfl (n_store 0 H rfl rfl rfl rfl (vs := [.int .i64 (sq + 1)]) rfl (by simp [u8, u32, Value.oneCell']) (by kernel_rfl) (by simp) (out := [.pointer (some ⟨pd, 0, none⟩), .pointer (some ⟨pt, 0, none⟩), .int .i64 s.gen, .int .i64 s.epoch, .int .i64 s.pages, .int .i64 s.start, .int .i64 s.len, .int .i64 s.head, .int .i64 s.seq, .int .i64 ((at_ + n) % s.len), .int .i64 (sq + 1), .int .i64 us, .bool br, .bool nu]) rfl) ?_)))))); rintro w H'; have H := H'.l1; clear H'; refine s_end (s_region (s_L 5 [11, 0] (mm1 (H.blk 0 rfl) mm0) rfl (by kernel_rfl) rfl (s_do rfl rfl rfl (d_add64 rfl rfl rfl (r := us + n) (by omega) (by omega)) (s_Q 2 [11] rfl (by kernel_rfl) (s_put rfl rfl (n_store 0 H rfl rfl rfl rfl (vs := [.int .i64 (us + n)]) rfl (by simp [u8, u32, Value.oneCell']) (by kernel_rfl) (by simp) (out := [.pointer (some ⟨pd, 0, none⟩), .pointer (some ⟨pt, 0, none⟩), .int .i64 s.gen, .int .i64 s.epoch, .int .i64 s.pages, .int .i64 s.start, .int .i64 s.len, .int .i64 s.head, .int .i64 s.seq, .int .i64 ((at_ + n) % s.len), .int .i64 (sq + 1), .int .i64 (us + n), .bool br, .bool nu]) rfl) ?_)))))
 rintro w H'; have H := H'.l1; clear H'; refine s_end (doneL rfl [] trivial (v := .tuple #[]) rfl ?_); exact ⟨[lgB pl pd pt s ((at_ + n) % s.len) (sq + 1) (us + n) br nu], ⟨rfl, rfl⟩, H⟩
theorem lnew_ok (pd bd m N : Nat) (f0 f1 f2 f3 lf : Int) (cut : Bool) (pt : Nat) (s : Sup) (hN : N ≤ 1152921504606846976) (hok : s.Ok ((N : Int) / 256)) : Cn Tryz.prog 67 [.pointer (some ⟨pd, 0, none⟩), .pointer (some ⟨pt, 0, none⟩), .agg #[.int .i64 s.gen, .int .i64 s.epoch, .int .i64 s.pages, .int .i64 s.start, .int .i64 s.len, .int .i64 s.head, .int .i64 s.seq]] [blk pd [.slice (some ⟨bd, 0, none⟩) N N, .map (some m), .int .i64 f0, .int .i64 f1, .int .i64 f2, .int .i64 f3, .bool cut, .int .i64 lf] 120] (fun v Γ => (∃ pl, v = .pointer (some ⟨pl, 0, none⟩) ∧ Γ = [lgB pl pd pt s s.head s.seq 0 false (decide (s.epoch < 4294967296)), blk pd [.slice (some ⟨bd, 0, none⟩) N N, .map (some m), .int .i64 f0, .int .i64 f1, .int .i64 f2, .int .i64 f3, .bool cut, .int .i64 lf] 120])) := by
 intro z R w H'; have H : Sep z (blk pd [.slice (some ⟨bd, 0, none⟩) N N, .map (some m), .int .i64 f0, .int .i64 f1, .int .i64 f2, .int .i64 f3, .bool cut, .int .i64 lf] 120 :: R) w := H'
 clear H'; refine enter Tryz.func67 rfl 32 Tryz.ntmps67 rfl (k_seq (s_region (s_go rfl rfl rfl (n_box H rfl rfl (cs := [.int .i64 s.gen, .int .i64 s.epoch, .int .i64 s.pages, .int .i64 s.start, .int .i64 s.len, .int .i64 s.head, .int .i64 s.seq]) rfl) ?_))); rintro _ w ⟨b1, rfl, H'⟩; have H := H'.l2; clear H'; refine s_M 1 rfl rfl (s_end (k_seq (k_seq (q_region (Sep z _) (by kernel_rfl) (by kernel_rfl) H.drew (q_M 1 [] rfl (by kernel_rfl) (q_do rfl rfl rfl (d_eql_pn rfl (by kernel_rfl) rfl rfl) (q_M 2 [] rfl (by kernel_rfl) (q_do rfl rfl rfl (d_eql_pn rfl (by kernel_rfl) rfl rfl) (q_M 2 [] rfl (by kernel_rfl) (q_do rfl rfl rfl (d_loadAgg rfl rfl (vs := [.int .i64 s.gen, .int .i64 s.epoch, .int .i64 s.pages, .int .i64 s.start, .int .i64 s.len, .int .i64 s.head, .int .i64 s.seq]) (by kernel_rfl) (fun _ hx => (hx.blk 0 rfl).part 0 7 _ rfl)) (q_M 1 [] rfl (by kernel_rfl) (q_call rfl rfl rfl rfl rfl (fun w => Tryz.call68 _ w) (v := .int .i64 ((N : Int) / 256)) (cq (size_c _ _ _ _ _ _ _ _ _ _ (by omega)) (by rintro _ _ ⟨rfl, rfl⟩; exact ⟨rfl, rfl⟩) 2 [1, 0] [1, 0] rfl rfl rfl rfl) (q_call rfl rfl rfl rfl rfl (fun w => Tryz.call50 _ w) (v := .int .i64 (if s.Ok ((N : Int) / 256) then 0 else 1)) (cq (check_c _ _ (by omega)) (by rintro _ _ ⟨rfl, rfl⟩; exact ⟨rfl, rfl⟩) 0 [] [] rfl rfl rfl rfl) ?_))))))))))))); refine q_M 2 [] rfl (by kernel_rfl) (q_end (fun w H' => ?_)); have H := H'.l2; clear H'; refine k_dec rfl (fun h1 => ?_) (fun h1 => ?_)
 ·exact absurd (if_pos hok) h1
 ·refine k_skip (k_seq (s_region (s_M 2 rfl rfl (s_do rfl rfl rfl (d_loadAgg rfl rfl (vs := [.int .i64 s.gen, .int .i64 s.epoch, .int .i64 s.pages, .int .i64 s.start, .int .i64 s.len, .int .i64 s.head, .int .i64 s.seq]) (by kernel_rfl) (here ((H.blk 0 rfl).part 0 7 _ rfl))) (s_L 7 [5, 0, 6, 0, 1, 0] (mm1 (H.blk 0 rfl) mm0) rfl (by kernel_rfl) rfl (s_do rfl rfl rfl (d_build rfl rfl (out := [.pointer (some ⟨pd, 0, none⟩), .pointer (some ⟨pt, 0, none⟩), .int .i64 s.gen, .int .i64 s.epoch, .int .i64 s.pages, .int .i64 s.start, .int .i64 s.len, .int .i64 s.head, .int .i64 s.seq, .int .i64 s.head, .int .i64 s.seq, .int .i64 0, .bool false, .bool (decide ((s.epoch : Int) < 4294967296))]) (by kernel_rfl)) (s_go rfl rfl rfl (n_box H rfl rfl (cs := [.pointer (some ⟨pd, 0, none⟩), .pointer (some ⟨pt, 0, none⟩), .int .i64 s.gen, .int .i64 s.epoch, .int .i64 s.pages, .int .i64 s.start, .int .i64 s.len, .int .i64 s.head, .int .i64 s.seq, .int .i64 s.head, .int .i64 s.seq, .int .i64 0, .bool false, .bool (decide ((s.epoch : Int) < 4294967296))]) rfl) ?_))))))); rintro _ w ⟨b2, rfl, H'⟩; have H := H'.l3; clear H'; refine s_M 1 rfl rfl (s_end (k_ret (doneL rfl [.pointer (some ⟨b2, 0, none⟩)] ⟨rfl, trivial⟩ (v := .pointer (some ⟨b2, 0, none⟩)) rfl ?_))); exact ⟨[blk b2 [.pointer (some ⟨pd, 0, none⟩), .pointer (some ⟨pt, 0, none⟩), .int .i64 s.gen, .int .i64 s.epoch, .int .i64 s.pages, .int .i64 s.start, .int .i64 s.len, .int .i64 s.head, .int .i64 s.seq, .int .i64 s.head, .int .i64 s.seq, .int .i64 0, .bool false, .bool (decide ((s.epoch : Int) < 4294967296))] 176, blk pd [.slice (some ⟨bd, 0, none⟩) N N, .map (some m), .int .i64 f0, .int .i64 f1, .int .i64 f2, .int .i64 f3, .bool cut, .int .i64 lf] 120], ⟨b2, rfl, rfl⟩, H.perm 3 [0, 2] rfl rfl⟩
end Go.Proofs.YtbegkbjigbkljaaGreatDoor
namespace Go.Proofs.YtbegkbjigbkljaaGreatDoor
open Go.RowKit
theorem dnew_c (k : Nat) : Cn Tryz.prog 27 [.int .i64 (k : Int)] [] (fun v Γ => (¬ (1 ≤ k ∧ k ≤ 4096) ∧ v = .tuple #[.pointer none, .int .i64 1] ∧ Γ = []) ∨ ((1 ≤ k ∧ k ≤ 4096) ∧ ∃ pd, v = .tuple #[.pointer (some ⟨pd, 0, none⟩), .int .i64 0] ∧ Γ = [diskA pd (newD k)])) := by
 intro z R w H'; have H : Sep z (R) w := H'
 clear H'; refine enter Tryz.func27 rfl 16 Tryz.ntmps27 rfl (k_seq (s_region (s_M 2 rfl rfl (s_end (k_seq (k_seq (s_region (s_M 3 rfl rfl (s_part 6 rfl (fun h1 => ?_) (fun h1 => ?_))))))))))
 ·refine s_M 3 rfl rfl (s_end (k_true rfl (k_seq (s_region (s_M 2 rfl rfl (s_end (k_ret (doneL rfl [.pointer none, .int .i64 1] ⟨rfl, ⟨rfl, trivial⟩⟩ (v := .tuple #[.pointer none, .int .i64 1]) rfl ?_)))))))); exact ⟨[], .inl ⟨by omega, rfl, rfl⟩, H⟩
 ·refine s_M 3 rfl rfl (s_end (k_dec rfl (fun h2 => ?_) (fun h2 => ?_)))
  ·refine k_seq (s_region (s_M 2 rfl rfl (s_end (k_ret (doneL rfl [.pointer none, .int .i64 1] ⟨rfl, ⟨rfl, trivial⟩⟩ (v := .tuple #[.pointer none, .int .i64 1]) rfl ?_))))); exact ⟨[], .inl ⟨by omega, rfl, rfl⟩, H⟩
  ·refine k_skip (k_seq (s_region (s_M 1 rfl rfl (s_do rfl rfl rfl (d_mul64 rfl rfl rfl (r := ((k * 256 : Nat) : Int)) (by omega) (by omega)) (s_go rfl rfl rfl (n_make (k := (k * 256)) H rfl (by kernel_rfl) (Elt.mk (P := Tryz.prog) (e := 5) (z := u8 0) (sz := 1) (by_ := 1) (by kernel_rfl) rfl (by omega) (by omega)) rfl rfl rfl (by omega)) ?_))))); rintro _ w ⟨b1, rfl, H'⟩; have H := H'.l1; clear H'; refine s_go rfl rfl rfl (n_makeMap H rfl) ?_; rintro _ w ⟨m2, rfl, H'⟩; have H := H'.l2; clear H'; refine s_do rfl rfl rfl (d_build rfl rfl (out := [.slice (some ⟨b1, 0, none⟩) (k * 256) (k * 256), .map (some m2), .int .i64 0, .int .i64 0, .int .i64 0, .int .i64 0, .bool false, .int .i64 0]) (by kernel_rfl)) (s_go rfl rfl rfl (n_box H rfl rfl (cs := [.slice (some ⟨b1, 0, none⟩) (k * 256) (k * 256), .map (some m2), .int .i64 0, .int .i64 0, .int .i64 0, .int .i64 0, .bool false, .int .i64 0]) rfl) ?_); rintro _ w ⟨b3, rfl, H'⟩; have H := H'.l3; clear H'; refine s_M 2 rfl rfl (s_end (k_ret (doneL rfl [.pointer (some ⟨b3, 0, none⟩), .int .i64 0] ⟨rfl, ⟨rfl, trivial⟩⟩ (v := .tuple #[.pointer (some ⟨b3, 0, none⟩), .int .i64 0]) rfl ?_))); have H' := pool0 H
   have H := H'.l4; clear H'; have H' := H.void (B := seps (([] : List Ent).map Ent.row)) (fun h => ⟨fun _ => 0, fun i A e => by cases e⟩)
   have H := H'.l5; clear H'; have hbs : List.replicate (k * 256) (u8 0) = (List.replicate (k * 256) (0 : UInt8)).map u8 := by simp
   rw [hbs] at H; have H : Sep z (seps (([] : List Ent).map Ent.row) :: poolA (fun _ => none) :: blk b3 [.slice (some ⟨b1, 0, none⟩) (k * 256) (k * 256), .map (some m2), .int .i64 0, .int .i64 0, .int .i64 0, .int .i64 0, .bool false, .int .i64 0] 120 :: mapB m2 (([] : List Ent).map Ent.ie) 0 :: blk b1 ((List.replicate (k * 256) (0 : UInt8)).map u8) 5 :: R) w := H
   replace H := H.f1.f3.f4.f4; have H' := Sep.toDisk (D := newD k) (pd := b3) (bd := b1) (m := m2) (f0 := 0) (bs := (List.replicate (k * 256) 0)) (es := ([] : List Ent)) (clk := 0) (hq := (fun _ => none)) (Γ := R) H (newD_ok (by omega)) newD_in
   have H := H'.l1; clear H'; exact ⟨[diskA b3 (newD k)], .inr ⟨by omega, b3, rfl, rfl⟩, H⟩
theorem lread_c (pl pd pt : Nat) (s : Sup) (at_ sq us : Int) (br nu : Bool) (x : Int) (D : Dsk) (hf1 : D.f1 = 0) (hr : 0 ≤ s.start ∧ 0 < s.len ∧ s.start + s.len ≤ D.n) (hx : 0 ≤ x ∧ x ≤ 1152921504606846976) (sec : List UInt8) (hsec : D.cont (ringAt s x) = sec) : Cn Tryz.prog 135 [.pointer (some ⟨pl, 0, none⟩), .int .i64 x] [lgB pl pd pt s at_ sq us br nu, diskA pd D] (fun v Γ => (∃ g cap rest, v = .tuple #[.slice (some ⟨g, 0, none⟩) 256 cap, .int .i64 0] ∧ (256 ≤ cap ∧ cap ≤ 9223372036854775807 ∧ rest.length = cap - 256) ∧ Γ = [blk g (sec.map u8 ++ rest) 5, lgB pl pd pt s at_ sq us br nu, diskA pd D])) := by
 intro z R w H'; have H : Sep z (lgB pl pd pt s at_ sq us br nu :: diskA pd D :: R) w := H'
 clear H'; have hn2 := H.says 1 rfl (fun h q => (diskA.ok q).n2)
 have hm1 := Int.emod_nonneg x (by omega : s.len ≠ 0)
 have hm2 := Int.emod_lt_of_pos x (by omega : 0 < s.len)
 refine enter Tryz.func135 rfl 26 Tryz.ntmps135 rfl (k_seq (s_region (s_M 2 rfl rfl (s_end (k_seq (a_region (Sep z (lgB pl pd pt s at_ sq us br nu :: diskA pd D :: R)) 22 rfl (by kernel_rfl) (fun w' x' _ => ?_))))))); have H' := H.ext0 x'; clear x' H; revert H'; generalize w' = w; intro H'
 have H := H'.l2; clear H'; refine a_L [0, 1, 2, 3, 4, 5, 6, 7, 8, 9, 10, 11, 12, 13, 14] [0, 0, 2, 5, 0, 2, 6, 0] (fun _ hx => (mm1 (hx.blk 0 rfl) mm0)) (by exact H) rfl (by kernel_rfl) rfl rfl (a_do 15 rfl (by kernel_rfl) (by kernel_rfl) (by kernel_rfl) rfl rfl rfl (d_rem64 rfl rfl rfl (r := x % s.len) (by omega) (by omega) (by omega)) H (a_do 16 rfl (by kernel_rfl) (by kernel_rfl) (by kernel_rfl) rfl rfl rfl (d_add64 rfl rfl rfl (r := s.start + (x % s.len)) (by omega) (by omega)) H (a_all [17] (by kernel_rfl) (by simp) (all1 (o_C rfl rfl rfl rfl rfl rfl (fun w => Tryz.call58 _ w) (read_c _ _ _) H.f1 rfl ?_))))); rintro _ w _ (⟨hn, rfl, rfl⟩ | ⟨_, hf, _⟩ | ⟨_, _, g, cap, rest, rfl, ⟨cg, cc, cl⟩, rfl⟩) H'
 ·exact absurd ⟨by omega, by omega⟩ hn
 ·exact absurd hf (by omega)
 ·rw [diskA.f1 hf1] at H'; have H := H'.l3; clear H'; refine a_and (H.pick 3 [2, 1] rfl) (a_L [18, 19, 20, 21] [] (fun _ _ => mm0) (by exact (H.pick 3 [2, 1] rfl)) rfl (by kernel_rfl) rfl rfl (a_done (by kernel_rfl) (k_ret (doneL rfl [.slice (some ⟨g, 0, none⟩) 256 cap, .int .i64 0] ⟨rfl, ⟨rfl, trivial⟩⟩ (v := .tuple #[.slice (some ⟨g, 0, none⟩) 256 cap, .int .i64 0]) rfl ?_)))); subst hsec; exact ⟨[blk g ((D.cont (s.start + (x % s.len)).toNat).map u8 ++ rest) 5, lgB pl pd pt s at_ sq us br nu, diskA pd D], ⟨g, cap, rest, rfl, ⟨cg, cc, cl⟩, rfl⟩, H.perm 3 [0, 2, 1] rfl rfl⟩
end Go.Proofs.YtbegkbjigbkljaaGreatDoor
namespace Go.Proofs.YtbegkbjigbkljaaGreatDoor
open Go.RowKit
theorem moren_c (pt : Nat) (sum : UInt32) (v : Value) (n : Nat) (bs : List UInt8) (hn : bs.length = n) (A : Asn) (hA : ∀ h, A h → rdH 1 v n (bs.map u8) h) : Cn Tryz.prog 137 [.pointer (some ⟨pt, 0, none⟩), u32 sum, v] [tblA pt, A] (fun v Γ => v = u32 (crcMore sum bs) ∧ Γ = [tblA pt, A]) := by
  subst hn; exact more_c pt sum v bs A hA
set_option maxHeartbeats 1000000 in
theorem next_c (pl pd pt : Nat) (s : Sup) (at_ sq us : Int) (br nu : Bool) (D : Dsk) (hf1 : D.f1 = 0) (hr : 0 ≤ s.start ∧ 0 < s.len ∧ s.start + s.len ≤ D.n) (ha : 0 ≤ at_ ∧ at_ ≤ 1099511627776) (hu : 0 ≤ us ∧ us ≤ 1099511627776) (hsl : s.len ≤ 4096) (F : Nat → List UInt8) (hF : ∀ j : Nat, F j = D.cont (ringAt s (at_ + j))) : Cn Tryz.prog 105 [.pointer (some ⟨pl, 0, none⟩)] [lgB pl pd pt s at_ sq us br nu, tblA pt, diskA pd D] (fun v Γ => ((∀ ims, ¬ nextP F s.epoch sq (s.len - us) ims) ∧ v = .tuple #[.agg #[.int .i64 0, .slice none 0 0], .int .i64 0] ∧ Γ = [lgB pl pd pt s at_ sq us br nu, tblA pt, diskA pd D]) ∨ (∃ ims v' hq, nextP F s.epoch sq (s.len - us) ims ∧ v = .tuple #[.agg #[.int .i64 sq, v'], .int .i64 0] ∧ imgsH v' ims hq ∧ Γ = [poolA hq, lgB pl pd pt s at_ sq us br nu, tblA pt, diskA pd D])) := by
 intro z R w H'; have H : Sep z (lgB pl pd pt s at_ sq us br nu :: tblA pt :: diskA pd D :: R) w := H'
 clear H'; have hF1 : ∀ j : Nat, (F j).length = 256 := fun j => by
   rw [hF]; refine Dsk.cont_len (H.says 2 rfl (fun h q => diskA.ok q)) ?_
   have hm1 := Int.emod_nonneg (at_ + j) (by omega : s.len ≠ 0)
   have hm2 := Int.emod_lt_of_pos (at_ + j) (by omega : 0 < s.len)
   unfold ringAt; omega
 have H' := pool0 H
 have H := H'.l4; clear H'; refine enter Tryz.func105 rfl 179 Tryz.ntmps105 rfl (k_seq (s_region (s_go rfl rfl rfl (n_alloc (P := Tryz.prog) H rfl (zs := [.int .i64 0, .slice none 0 0]) (by kernel_rfl)) ?_))); rintro _ w ⟨b1, rfl, H'⟩; have H := H'.l5; clear H'; refine s_M 1 rfl rfl (s_end (k_seq (s_region (s_do rfl rfl rfl (d_build rfl rfl (out := [.int .i64 0, .slice none 0 0]) (by kernel_rfl)) (s_go rfl rfl rfl (n_alloc (P := Tryz.prog) H rfl (zs := [.int .i64 0, .slice none 0 0]) (by kernel_rfl)) ?_))))); rintro _ w ⟨b2, rfl, H'⟩; have H := H'.l6; clear H'; refine s_put rfl rfl (n_store 0 H rfl rfl rfl rfl (vs := [.int .i64 0, .slice none 0 0]) rfl (by simp [u8, u32, Value.oneCell']) (by kernel_rfl) (by simp) (out := [.int .i64 0, .slice none 0 0]) rfl) ?_; rintro w H'; have H := H'.l6; clear H'; refine s_end (k_seq (s_region (s_L 5 [9, 0] (mm1 (H.blk 3 rfl) mm0) rfl (by kernel_rfl) rfl (s_C rfl rfl rfl rfl rfl (fun w => Tryz.call135 _ w) (lread_c _ _ _ _ _ _ _ _ _ _ _ hf1 hr (by omega) (F 0) (by rw [hF]; simp)) H.f5.f4 rfl ?_)))); rintro _ w _ ⟨g, cap, rest, rfl, ⟨cg, cc, cl⟩, rfl⟩ H'; have H := H'.l7; clear H'; replace H := H.f5; obtain ⟨hq1, ⟨shq1, hshq1⟩, H'⟩ := pool_rd H (fun h q => blk_sec q (hF1 _) ⟨cg, cc, cl⟩); clear H; have H := H'.l6; clear H'; refine s_M 5 rfl rfl (s_end (k_seq (k_seq (s_region (s_M 2 rfl rfl (k_updA 32 (u := .bool (decide ((0 : Int) ≠ 0))) (v := .bool false) rfl (congrArg Value.bool (by decide)) (s_end (k_false rfl (k_skip (k_seq (s_region (s_L 5 [1, 0] (mm1 (H.blk 1 rfl) mm0) rfl (by kernel_rfl) rfl (s_C rfl rfl rfl rfl rfl (fun w => Tryz.call136 _ w) (getHead_c _ _ _ _ (F 0) _ (fun h q => hshq1.le q)) H.f5 rfl ?_)))))))))))))
 rintro _ w _ (⟨hh, v1, rfl, rfl⟩ | ⟨hh, rfl, rfl⟩) H'
 ·have H := H'.l7; clear H'; have hch := hh
  refine s_M 1 rfl rfl ?_; obtain ⟨ao1, cc1, rfl⟩ := H.says 0 rfl (fun h q => q.slc); have H : Sep z (grow 3 1 (.slice ao1 (hCnt (F 0)) cc1) (hCnt (F 0)) (hN (F 0) (hCnt (F 0))) :: tblA pt :: poolA hq1 :: lgB pl pd pt s at_ sq us br nu :: diskA pd D :: blk b2 [.int .i64 0, .slice none 0 0] 95 :: blk b1 [.int .i64 0, .slice none 0 0] 95 :: R) w := H
  replace H := H.f2; obtain ⟨hq2, ⟨shq2, hns⟩, H'⟩ := pool_rd H (fun h q => q.rd); clear H; have H := H'.l6; clear H'; have hcnt := hh.2.2.2.1
  refine s_M 2 rfl rfl (s_go rfl rfl rfl (n_alloc (P := Tryz.prog) H rfl (zs := [.int .i64 0, .int .i64 0, .slice none 0 0, u32 0]) (by kernel_rfl)) ?_); rintro _ w ⟨b3, rfl, H'⟩; have H := H'.l7; clear H'; refine s_put rfl rfl (n_store 0 H rfl rfl rfl rfl (vs := [.int .i64 (headE (F 0)), .int .i64 (headS (F 0)), .slice ao1 (hCnt (F 0)) cc1, u32 (headU (F 0))]) rfl (by simp [u8, u32, Value.oneCell']) (by kernel_rfl) (by simp) (out := [.int .i64 (headE (F 0)), .int .i64 (headS (F 0)), .slice ao1 (hCnt (F 0)) cc1, u32 (headU (F 0))]) rfl) ?_; rintro w H'; have H := H'.l7; clear H'; refine s_M 1 rfl rfl (s_end (k_seq (k_seq (q_region (Sep z _) (by kernel_rfl) (by kernel_rfl) H.drew (q_L 13 [0, 0, 2, 3, 1] (fun _ hx => (mm1 (hx.blk 0 rfl) (mm1 (hx.blk 3 rfl) mm0))) rfl (by kernel_rfl) rfl (q_part 56 rfl (fun h1 => ?_) (fun h1 => ?_)))))))
  ·refine q_M 25 [] rfl (by kernel_rfl) (q_end (fun w H' => ?_)); have H := H'.l7; clear H'; refine k_true rfl (k_seq (s_region (s_do rfl rfl rfl (d_loadAgg rfl rfl (vs := [.int .i64 0, .slice none 0 0]) (by kernel_rfl) (here ((H.blk 5 rfl).part 0 2 _ rfl))) (s_put rfl rfl (n_store 6 H rfl rfl rfl rfl (vs := [.int .i64 0, .slice none 0 0]) rfl (by simp [u8, u32, Value.oneCell']) (by kernel_rfl) (by simp) (out := [.int .i64 0, .slice none 0 0]) rfl) ?_)))); rintro w H'; have H := H'.l7; clear H'; refine s_M 1 rfl rfl (s_end (k_ret (doneL rfl [.agg #[.int .i64 0, .slice none 0 0], .int .i64 0] ⟨⟨_, _, rfl, run_loadBlk (by kernel_rfl) (H.blk 6 rfl) (vs := [.int .i64 0, .slice none 0 0]) rfl⟩, ⟨rfl, trivial⟩⟩ (v := .tuple #[.agg #[.int .i64 0, .slice none 0 0], .int .i64 0]) rfl ?_))); exact ⟨[lgB pl pd pt s at_ sq us br nu, tblA pt, diskA pd D], .inl ⟨fun ims => by rintro ⟨q1, q2, q3, q4, q5, q6, q7⟩; first | exact hh q1 | (exfalso; omega) | exact absurd (q6 i (by omega)).1 hi | (have q8 := q6 i (by omega); simp only [imgX, imgY] at q8; exfalso; omega) | exact absurd (show crcSum (catF F (hCnt (F 0))) = headU (F 0) from q7) ‹_›, rfl, rfl⟩, H.perm 7 [3, 2, 4] rfl rfl⟩
  ·refine q_L 9 [1, 0, 10, 1] (fun _ hx => (mm1 (hx.blk 0 rfl) (mm1 (hx.blk 3 rfl) mm0))) rfl (by kernel_rfl) rfl (q_part 65 rfl (fun h2 => ?_) (fun h2 => ?_))
   ·refine q_M 16 [] rfl (by kernel_rfl) (q_end (fun w H' => ?_)); have H := H'.l7; clear H'; refine k_true rfl (k_seq (s_region (s_do rfl rfl rfl (d_loadAgg rfl rfl (vs := [.int .i64 0, .slice none 0 0]) (by kernel_rfl) (here ((H.blk 5 rfl).part 0 2 _ rfl))) (s_put rfl rfl (n_store 6 H rfl rfl rfl rfl (vs := [.int .i64 0, .slice none 0 0]) rfl (by simp [u8, u32, Value.oneCell']) (by kernel_rfl) (by simp) (out := [.int .i64 0, .slice none 0 0]) rfl) ?_)))); rintro w H'; have H := H'.l7; clear H'; refine s_M 1 rfl rfl (s_end (k_ret (doneL rfl [.agg #[.int .i64 0, .slice none 0 0], .int .i64 0] ⟨⟨_, _, rfl, run_loadBlk (by kernel_rfl) (H.blk 6 rfl) (vs := [.int .i64 0, .slice none 0 0]) rfl⟩, ⟨rfl, trivial⟩⟩ (v := .tuple #[.agg #[.int .i64 0, .slice none 0 0], .int .i64 0]) rfl ?_))); exact ⟨[lgB pl pd pt s at_ sq us br nu, tblA pt, diskA pd D], .inl ⟨fun ims => by rintro ⟨q1, q2, q3, q4, q5, q6, q7⟩; first | exact hh q1 | (exfalso; omega) | exact absurd (q6 i (by omega)).1 hi | (have q8 := q6 i (by omega); simp only [imgX, imgY] at q8; exfalso; omega) | exact absurd (show crcSum (catF F (hCnt (F 0))) = headU (F 0) from q7) ‹_›, rfl, rfl⟩, H.perm 7 [3, 2, 4] rfl rfl⟩
   ·refine q_L 2 [2, 0] (fun _ hx => (mm1 (hx.blk 0 rfl) mm0)) rfl (by kernel_rfl) rfl (q_do rfl rfl rfl (d_len rfl (z := 1) (by kernel_rfl) rfl) (q_do rfl rfl rfl (d_add64 rfl rfl rfl (r := 1 + ((hCnt (F 0) : Nat) : Int)) (by omega) (by omega)) (q_L 9 [2, 6, 0, 11, 0] (fun _ hx => (mm1 (hx.blk 3 rfl) mm0)) rfl (by kernel_rfl) rfl (q_do rfl rfl rfl (d_sub64 rfl rfl rfl (r := s.len - us) (by omega) (by omega)) (q_M 2 [] rfl (by kernel_rfl) (q_end (fun w H' => ?_))))))); have H := H'.l7; clear H'; refine k_dec rfl (fun h3 => ?_) (fun h3 => ?_)
    ·refine k_seq (s_region (s_do rfl rfl rfl (d_loadAgg rfl rfl (vs := [.int .i64 0, .slice none 0 0]) (by kernel_rfl) (here ((H.blk 5 rfl).part 0 2 _ rfl))) (s_put rfl rfl (n_store 6 H rfl rfl rfl rfl (vs := [.int .i64 0, .slice none 0 0]) rfl (by simp [u8, u32, Value.oneCell']) (by kernel_rfl) (by simp) (out := [.int .i64 0, .slice none 0 0]) rfl) ?_))); rintro w H'; have H := H'.l7; clear H'; refine s_M 1 rfl rfl (s_end (k_ret (doneL rfl [.agg #[.int .i64 0, .slice none 0 0], .int .i64 0] ⟨⟨_, _, rfl, run_loadBlk (by kernel_rfl) (H.blk 6 rfl) (vs := [.int .i64 0, .slice none 0 0]) rfl⟩, ⟨rfl, trivial⟩⟩ (v := .tuple #[.agg #[.int .i64 0, .slice none 0 0], .int .i64 0]) rfl ?_))); exact ⟨[lgB pl pd pt s at_ sq us br nu, tblA pt, diskA pd D], .inl ⟨fun ims => by rintro ⟨q1, q2, q3, q4, q5, q6, q7⟩; first | exact hh q1 | (exfalso; omega) | exact absurd (q6 i (by omega)).1 hi | (have q8 := q6 i (by omega); simp only [imgX, imgY] at q8; exfalso; omega) | exact absurd (show crcSum (catF F (hCnt (F 0))) = headU (F 0) from q7) ‹_›, rfl, rfl⟩, H.perm 7 [3, 2, 4] rfl rfl⟩
    ·refine k_skip (k_seq (s_region (s_M 1 rfl rfl (s_end (k_seq (s_region (s_M 1 rfl rfl (s_end (k_seq (k_seq ?_)))))))))); have H' := H.nilg 63 1
     have H := H'.l8; clear H'; refine s_region (s_L 2 [2, 0] (mm1 (H.blk 1 rfl) mm0) rfl (by kernel_rfl) rfl (s_do rfl rfl rfl (d_len rfl (z := 1) (by kernel_rfl) rfl) (s_M 1 rfl rfl (s_end (k_block ?_))))); refine c_loop (σ := Nat × Value × List Value × Hp) (fun ⟨i, v, pvs, hq⟩ => [(86, .int .i64 (i : Int)), (9, u32 (crcSum (catF F i))), (10, v), (0, .pointer (some ⟨pl, 0, none⟩)), (2, .pointer (some ⟨b1, 0, none⟩)), (4, .pointer (some ⟨b2, 0, none⟩)), (7, .pointer (some ⟨b3, 0, none⟩)), (85, .int .i64 ((hCnt (F 0) : Nat) : Int))])
       (fun ⟨i, v, pvs, hq⟩ w => Sep z (grow 63 1 v i pvs :: blk b3 [.int .i64 (headE (F 0)), .int .i64 (headS (F 0)), .slice ao1 (hCnt (F 0)) cc1, u32 (headU (F 0))] 138 :: poolA hq :: tblA pt :: lgB pl pd pt s at_ sq us br nu :: diskA pd D :: blk b2 [.int .i64 0, .slice none 0 0] 95 :: blk b1 [.int .i64 0, .slice none 0 0] 95 :: R) w ∧ (i ≤ hCnt (F 0) ∧ pvs.length = i ∧ subH hq2 hq ∧ ∀ (j : Nat) (pv : Value), pvs[j]? = some pv → rdH 1 pv 256 ((F (1 + j)).map u8) hq)) (fun ⟨i, v, pvs, hq⟩ => hCnt (F 0) - i) ⟨0, .slice none 0 0, [], hq2⟩
       (fun _ hF => (hF.co rfl (by go_num) (hF.co rfl (crc0 F) (hF.co rfl (by go_num) (hF.all rfl))))) ⟨H, by omega, rfl, fun k o e => e, fun j pv h => by simp at h⟩ ?_
     clear H; rintro ⟨i, v, pvs, hq⟩ w ⟨H', hI⟩; dsimp only at hI H' ⊢
     have H := H'.l8; clear H'; have sv := H.says 0 rfl (fun h q => q.slc)
     obtain ⟨hic, hpl, hsub, hpvs⟩ := hI; refine k_seq (s_region (s_M 1 rfl rfl (s_end (k_seq (k_dec rfl (fun h4 => ?_) (fun h4 => ?_))))))
     ·have hlt : i < hCnt (F 0) := by omega
      refine k_skip (k_seq (k_block (k_seq (s_region (s_M 2 rfl rfl (s_end (k_seq (s_region (s_L 5 [9, 0] (mm1 (H.blk 4 rfl) mm0) rfl (by kernel_rfl) rfl (s_do rfl rfl rfl (d_add64 rfl rfl rfl (r := at_ + 1) (by omega) (by omega)) (s_M 1 rfl rfl (s_do rfl rfl rfl (d_add64 rfl rfl rfl (r := (at_ + 1) + (i : Int)) (by omega) (by omega)) (s_C rfl rfl rfl rfl rfl (fun w => Tryz.call135 _ w) (lread_c _ _ _ _ _ _ _ _ _ _ _ hf1 hr (by omega) (F (1 + i)) (by rw [hF]; congr 2; omega)) H.f5.f5 rfl ?_))))))))))))); rintro _ w _ ⟨g, cap, rest, rfl, ⟨cg, cc, cl⟩, rfl⟩ H'; have H := H'.l9; clear H'; replace H := H.f5; obtain ⟨hq3, ⟨shq3, hshq3⟩, H'⟩ := pool_rd H (fun h q => blk_sec q (hF1 _) ⟨cg, cc, cl⟩); clear H; have H := H'.l8; clear H'; refine s_M 5 rfl rfl (s_end (k_seq (k_seq (s_region (s_M 2 rfl rfl (k_updA 102 (u := .bool (decide ((0 : Int) ≠ 0))) (v := .bool false) rfl (congrArg Value.bool (by decide)) (s_end (k_false rfl (k_skip (k_seq (s_region (s_L 6 [1, 0] (mm1 (H.blk 1 rfl) mm0) rfl (by kernel_rfl) rfl (s_C rfl rfl rfl rfl rfl (fun w => Tryz.call137 _ w) (moren_c _ _ _ 256 (F (1 + i)) (hF1 _) _ (fun h q => hshq3.le q)) H.f5 rfl ?_))))))))))))); rintro _ w _ ⟨rfl, rfl⟩ H'; have H := H'.l8; clear H'; refine s_M 1 rfl rfl (s_end (s_region (s_M 2 rfl rfl (s_go rfl rfl rfl (n_buildSlice H rfl (by kernel_rfl) (Elt.mk (P := Tryz.prog) (e := 63) (z := .slice none 0 0) (sz := 1) (by_ := 24) (by kernel_rfl) rfl (by omega) (by omega)) rfl (by decide) (by decide) (out := [.slice (some ⟨g, 0, none⟩) 256 cap]) (by kernel_rfl)) ?_)))); rintro _ w ⟨b4, rfl, H'⟩
      have H := H'.l9; clear H'; refine s_go rfl rfl rfl (n_append 5 H rfl rfl (by kernel_rfl) (Elt.mk (P := Tryz.prog) (e := 63) (z := .slice none 0 0) (sz := 1) (by_ := 24) (by kernel_rfl) rfl (by omega) (by omega)) rfl rfl (H.rd 0 rfl (fun h q => q.rd (by omega) (by omega) (by simp) rfl)) (by simp [Value.oneCell']) (by omega)) ?_; rintro v5 w H'; have H := H'.l9; clear H'; have sv5 := H.says 5 rfl (fun h q => q.slc)
      refine s_M 1 rfl rfl (s_end (s_region (s_do rfl rfl rfl (d_add64 rfl rfl rfl (r := (i : Int) + 1) (by omega) (by omega)) (s_M 1 rfl rfl (s_end ?_))))); replace H := H.d.f7.f7.f5.f5.f4.f5.f7.f7; intro _ hF; refine ⟨⟨i + 1, v5, pvs ++ [.slice (some ⟨g, 0, none⟩) 256 cap], hq3⟩, (hF.co rfl (by go_num) (hF.co rfl (congrArg u32 (crc_succ F i)) (hF.all rfl))), ⟨H, ?_⟩, ?_⟩
      ·refine ⟨by omega, by simp [hpl], fun k o e => shq3 k o (hsub k o e), fun j pv h => ?_⟩; rcases Nat.lt_or_ge j i with q | q
       ·rw [List.getElem?_append_left (by omega)] at h; exact (hpvs j pv h).le shq3
       ·rw [List.getElem?_append_right (by omega)] at h; obtain rfl : j = i := by have := (List.getElem?_eq_some_iff.1 h).1; simp at this; omega
        simp [hpl] at h; subst h; exact hshq3
      ·omega
     ·obtain rfl : i = hCnt (F 0) := by omega
      refine k_exit (k_here (k_seq ?_)); obtain ⟨ao2, cc2, rfl⟩ := H.says 0 rfl (fun h q => q.slc); have H : Sep z (grow 63 1 (.slice ao2 (hCnt (F 0)) cc2) (hCnt (F 0)) pvs :: blk b3 [.int .i64 (headE (F 0)), .int .i64 (headS (F 0)), .slice ao1 (hCnt (F 0)) cc1, u32 (headU (F 0))] 138 :: poolA hq :: tblA pt :: lgB pl pd pt s at_ sq us br nu :: diskA pd D :: blk b2 [.int .i64 0, .slice none 0 0] 95 :: blk b1 [.int .i64 0, .slice none 0 0] 95 :: R) w := H
      replace H := H.f2; obtain ⟨hq4, ⟨shq4, hpv4⟩, H'⟩ := pool_rd H (fun h q => q.rd); clear H; have H := H'.l7; clear H'; have hns4 := hns.le (fun k o e => shq4 k o (hsub k o e))
      have H' := H.nilg 98 3
      have H := H'.l8; clear H'; refine s_region (s_L 4 [10, 0] (mm1 (H.blk 4 rfl) mm0) rfl (by kernel_rfl) rfl (s_do rfl rfl rfl (d_build rfl rfl (out := [.int .i64 sq, .slice none 0 0]) (by kernel_rfl)) (s_go rfl rfl rfl (n_alloc (P := Tryz.prog) H rfl (zs := [.int .i64 0, .slice none 0 0]) (by kernel_rfl)) ?_))); rintro _ w ⟨b6, rfl, H'⟩; have H := H'.l9; clear H'; refine s_put rfl rfl (n_store 0 H rfl rfl rfl rfl (vs := [.int .i64 sq, .slice none 0 0]) rfl (by simp [u8, u32, Value.oneCell']) (by kernel_rfl) (by simp) (out := [.int .i64 sq, .slice none 0 0]) rfl) ?_; rintro w H'; have H := H'.l9; clear H'; refine s_end (k_seq (k_seq (s_region (s_M 1 rfl rfl (s_do rfl rfl rfl (d_len rfl (z := 1) (by kernel_rfl) rfl) (s_M 1 rfl rfl (s_end (k_block ?_)))))))); refine c_loop (σ := Nat × Value × List ImE × Hp) (fun ⟨i, v, es, hq5⟩ => [(124, .int .i64 (i : Int)), (0, .pointer (some ⟨pl, 0, none⟩)), (2, .pointer (some ⟨b1, 0, none⟩)), (4, .pointer (some ⟨b2, 0, none⟩)), (7, .pointer (some ⟨b3, 0, none⟩)), (9, u32 (crcSum (catF F (hCnt (F 0))))), (14, .pointer (some ⟨b6, 0, none⟩)), (122, .slice ao2 (hCnt (F 0)) cc2), (123, .int .i64 ((hCnt (F 0) : Nat) : Int))])
        (fun ⟨i, v, es, hq5⟩ w => Sep z (blk b6 [.int .i64 sq, v] 95 :: grow 98 3 v i (imC es) :: poolA hq5 :: blk b3 [.int .i64 (headE (F 0)), .int .i64 (headS (F 0)), .slice ao1 (hCnt (F 0)) cc1, u32 (headU (F 0))] 138 :: tblA pt :: lgB pl pd pt s at_ sq us br nu :: diskA pd D :: blk b2 [.int .i64 0, .slice none 0 0] 95 :: blk b1 [.int .i64 0, .slice none 0 0] 95 :: R) w ∧ (i ≤ hCnt (F 0) ∧ es.length = i ∧ es.map Prod.fst = (List.range i).map (fun j => imgOf (F (1 + j))) ∧ subH hq4 hq5 ∧ imesOk es hq5 ∧ ∀ j, j < i → imgP (F (1 + j)) ∧ imgX (F (1 + j)) = s.epoch ∧ imgY (F (1 + j)) = sq ∧ (imgOf (F (1 + j))).num = hNum (F 0) j ∧ crcSum (catF F (hCnt (F 0))) = headU (F 0))) (fun ⟨i, v, es, hq5⟩ => hCnt (F 0) - i) ⟨0, .slice none 0 0, [], hq4⟩
        (fun _ hF => (hF.co rfl (by go_num) (hF.all rfl))) ⟨H, by omega, rfl, rfl, fun k o e => e, fun e he => absurd he (by simp), fun j h => by omega⟩ ?_
      clear H; rintro ⟨i, v, es, hq5⟩ w ⟨H', hI⟩; dsimp only at hI H' ⊢
      have H := H'.l9; clear H'; have sv := H.says 1 rfl (fun h q => q.slc)
      obtain ⟨hic, hel, hes, hsub5, hok, hall⟩ := hI; refine k_seq (s_region (s_M 1 rfl rfl (s_end (k_seq (k_dec rfl (fun h5 => ?_) (fun h5 => ?_))))))
      ·have hlt : i < hCnt (F 0) := by omega
       refine k_skip (k_seq (k_block (k_seq ?_))); obtain ⟨pv, hpv⟩ : ∃ pv, pvs[i]? = some pv := ⟨_, List.getElem?_eq_getElem (by omega)⟩; have hsec := (hpvs i pv hpv).le (fun k o e => hsub5 k o (shq4 k o e))
       obtain ⟨sb, so, sc, rfl⟩ := hsec.sl (by rw [List.length_map, hF1]; decide); have hat2 := (H.rd 2 rfl (fun h q => (hpv4.le hsub5).le q)).at (j := i) hpv
       have hat1 := (H.rd 2 rfl (fun h q => (hns4.le hsub5).le q)).at (j := i) (u := .int .i64 (hNum (F 0) i)) (by simp [hN, show i < hCnt (F 0) from by omega])
       refine s_region (s_M 1 rfl rfl (s_do rfl rfl rfl (d_indexE rfl (z := 1) (j := i) (r := i) (by kernel_rfl) rfl rfl rfl (by omega) hat2 (by omega)) (s_do rfl rfl rfl (d_loadE rfl rfl (by kernel_rfl) (here hat2)) (s_M 2 rfl rfl (s_end (k_seq (s_region (s_L 5 [1, 0] (mm1 (H.blk 5 rfl) mm0) rfl (by kernel_rfl) rfl (s_C rfl rfl rfl rfl rfl (fun w => Tryz.call138 _ w) (getImage_c _ _ _ _ (F (1 + i)) _ (fun h q => hsec.le q)) H.f2.f4 rfl ?_))))))))); rintro _ w _ (⟨hi, g3, cap3, rest3, rfl, ⟨cg3, cc3, cl3⟩, rfl⟩ | ⟨hi, rfl, rfl⟩) H'
       ·have H := H'.l10; clear H'; refine s_M 1 rfl rfl ?_; replace H := H.f2; obtain ⟨hq6, ⟨shq6, hbody⟩, H'⟩ := pool_rd H (fun h q => blk_sec q (by simp [hF1]) ⟨cg3, cc3, cl3⟩); clear H; have H := H'.l9; clear H'; refine s_M 4 rfl rfl (s_go rfl rfl rfl (n_alloc (P := Tryz.prog) H rfl (zs := [.int .i64 0, .int .i64 0, .slice none 0 0]) (by kernel_rfl)) ?_); rintro _ w ⟨b7, rfl, H'⟩; have H := H'.l10; clear H'; refine s_M 2 rfl rfl (s_put rfl rfl (n_store 0 H rfl rfl rfl rfl (vs := [.int .i64 ((imgOf (F (1 + i))).num), .int .i64 ((imgOf (F (1 + i))).kind), .slice (some ⟨g3, 0, none⟩) 240 cap3]) rfl (by simp [u8, u32, Value.oneCell']) (by kernel_rfl) (by simp) (out := [.int .i64 ((imgOf (F (1 + i))).num), .int .i64 ((imgOf (F (1 + i))).kind), .slice (some ⟨g3, 0, none⟩) 240 cap3]) rfl) ?_); rintro w H'; have H := H'.l10; clear H'; refine s_M 1 rfl rfl (s_end (k_seq (k_seq (q_region (Sep z _) (by kernel_rfl) (by kernel_rfl) H.drew (q_L 9 [0, 0] (fun _ hx => (mm1 (hx.blk 5 rfl) mm0)) rfl (by kernel_rfl) rfl (q_part 148 rfl (fun h6 => ?_) (fun h6 => ?_)))))))
        ·refine q_M 21 [] rfl (by kernel_rfl) (q_end (fun w H' => ?_)); have H := H'.l10; clear H'; refine k_true rfl (k_seq (s_region (s_do rfl rfl rfl (d_loadAgg rfl rfl (vs := [.int .i64 0, .slice none 0 0]) (by kernel_rfl) (here ((H.blk 8 rfl).part 0 2 _ rfl))) (s_put rfl rfl (n_store 9 H rfl rfl rfl rfl (vs := [.int .i64 0, .slice none 0 0]) rfl (by simp [u8, u32, Value.oneCell']) (by kernel_rfl) (by simp) (out := [.int .i64 0, .slice none 0 0]) rfl) ?_)))); rintro w H'; have H := H'.l10; clear H'; refine s_M 1 rfl rfl (s_end (k_ret (doneL rfl [.agg #[.int .i64 0, .slice none 0 0], .int .i64 0] ⟨⟨_, _, rfl, run_loadBlk (by kernel_rfl) (H.blk 9 rfl) (vs := [.int .i64 0, .slice none 0 0]) rfl⟩, ⟨rfl, trivial⟩⟩ (v := .tuple #[.agg #[.int .i64 0, .slice none 0 0], .int .i64 0]) rfl ?_))); exact ⟨[lgB pl pd pt s at_ sq us br nu, tblA pt, diskA pd D], .inl ⟨fun ims => by rintro ⟨q1, q2, q3, q4, q5, q6, q7⟩; first | exact hh q1 | (exfalso; omega) | exact absurd (q6 i (by omega)).1 hi | (have q8 := q6 i (by omega); simp only [imgX, imgY] at q8; exfalso; omega) | exact absurd (show crcSum (catF F (hCnt (F 0))) = headU (F 0) from q7) ‹_›, rfl, rfl⟩, H.perm 10 [6, 2, 7] rfl rfl⟩
        ·refine q_L 6 [1, 0] (fun _ hx => (mm1 (hx.blk 5 rfl) mm0)) rfl (by kernel_rfl) rfl (q_part 154 rfl (fun h7 => ?_) (fun h7 => ?_))
         ·refine q_M 15 [] rfl (by kernel_rfl) (q_end (fun w H' => ?_)); have H := H'.l10; clear H'; refine k_true rfl (k_seq (s_region (s_do rfl rfl rfl (d_loadAgg rfl rfl (vs := [.int .i64 0, .slice none 0 0]) (by kernel_rfl) (here ((H.blk 8 rfl).part 0 2 _ rfl))) (s_put rfl rfl (n_store 9 H rfl rfl rfl rfl (vs := [.int .i64 0, .slice none 0 0]) rfl (by simp [u8, u32, Value.oneCell']) (by kernel_rfl) (by simp) (out := [.int .i64 0, .slice none 0 0]) rfl) ?_)))); rintro w H'; have H := H'.l10; clear H'; refine s_M 1 rfl rfl (s_end (k_ret (doneL rfl [.agg #[.int .i64 0, .slice none 0 0], .int .i64 0] ⟨⟨_, _, rfl, run_loadBlk (by kernel_rfl) (H.blk 9 rfl) (vs := [.int .i64 0, .slice none 0 0]) rfl⟩, ⟨rfl, trivial⟩⟩ (v := .tuple #[.agg #[.int .i64 0, .slice none 0 0], .int .i64 0]) rfl ?_))); exact ⟨[lgB pl pd pt s at_ sq us br nu, tblA pt, diskA pd D], .inl ⟨fun ims => by rintro ⟨q1, q2, q3, q4, q5, q6, q7⟩; first | exact hh q1 | (exfalso; omega) | exact absurd (q6 i (by omega)).1 hi | (have q8 := q6 i (by omega); simp only [imgX, imgY] at q8; exfalso; omega) | exact absurd (show crcSum (catF F (hCnt (F 0))) = headU (F 0) from q7) ‹_›, rfl, rfl⟩, H.perm 10 [6, 2, 7] rfl rfl⟩
         ·refine q_L 5 [0, 0, 2, 1] (fun _ hx => (mm1 (hx.blk 0 rfl) (mm1 (hx.blk 5 rfl) mm0))) rfl (by kernel_rfl) rfl (q_do rfl rfl rfl (d_indexE rfl (z := 1) (j := i) (r := i) (by kernel_rfl) rfl rfl rfl (by omega) hat1 (by omega)) (q_do rfl rfl rfl (d_loadE rfl rfl (by kernel_rfl) (fun _ hx => (hx.rd 1 rfl (fun h q => (hns4.le (fun k o e => shq6 k o (hsub5 k o e))).le q)).at (j := i) (u := .int .i64 (hNum (F 0) i)) (by simp [hN, show i < hCnt (F 0) from by omega]))) (q_M 3 [] rfl (by kernel_rfl) (q_part 164 rfl (fun h8 => ?_) (fun h8 => ?_)))))
          ·refine q_M 5 [] rfl (by kernel_rfl) (q_end (fun w H' => ?_)); have H := H'.l10; clear H'; refine k_true rfl (k_seq (s_region (s_do rfl rfl rfl (d_loadAgg rfl rfl (vs := [.int .i64 0, .slice none 0 0]) (by kernel_rfl) (here ((H.blk 8 rfl).part 0 2 _ rfl))) (s_put rfl rfl (n_store 9 H rfl rfl rfl rfl (vs := [.int .i64 0, .slice none 0 0]) rfl (by simp [u8, u32, Value.oneCell']) (by kernel_rfl) (by simp) (out := [.int .i64 0, .slice none 0 0]) rfl) ?_)))); rintro w H'; have H := H'.l10; clear H'; refine s_M 1 rfl rfl (s_end (k_ret (doneL rfl [.agg #[.int .i64 0, .slice none 0 0], .int .i64 0] ⟨⟨_, _, rfl, run_loadBlk (by kernel_rfl) (H.blk 9 rfl) (vs := [.int .i64 0, .slice none 0 0]) rfl⟩, ⟨rfl, trivial⟩⟩ (v := .tuple #[.agg #[.int .i64 0, .slice none 0 0], .int .i64 0]) rfl ?_))); exact ⟨[lgB pl pd pt s at_ sq us br nu, tblA pt, diskA pd D], .inl ⟨fun ims => by rintro ⟨q1, q2, q3, q4, q5, q6, q7⟩; first | exact hh q1 | (exfalso; omega) | exact absurd (q6 i (by omega)).1 hi | (have q8 := q6 i (by omega); simp only [imgX, imgY] at q8; exfalso; omega) | exact absurd (show crcSum (catF F (hCnt (F 0))) = headU (F 0) from q7) ‹_›, rfl, rfl⟩, H.perm 10 [6, 2, 7] rfl rfl⟩
          ·refine q_L 3 [3, 0] (fun _ hx => (mm1 (hx.blk 5 rfl) mm0)) rfl (by kernel_rfl) rfl (q_do rfl rfl rfl (d_neq32 (k := .u32) rfl (by kernel_rfl) rfl rfl) (q_M 1 [] rfl (by kernel_rfl) (q_end (fun w H' => ?_)))); have H := H'.l10; clear H'; refine k_dec rfl (fun h9 => ?_) (fun h9 => ?_)
           ·refine k_seq (s_region (s_do rfl rfl rfl (d_loadAgg rfl rfl (vs := [.int .i64 0, .slice none 0 0]) (by kernel_rfl) (here ((H.blk 8 rfl).part 0 2 _ rfl))) (s_put rfl rfl (n_store 9 H rfl rfl rfl rfl (vs := [.int .i64 0, .slice none 0 0]) rfl (by simp [u8, u32, Value.oneCell']) (by kernel_rfl) (by simp) (out := [.int .i64 0, .slice none 0 0]) rfl) ?_))); rintro w H'; have H := H'.l10; clear H'; refine s_M 1 rfl rfl (s_end (k_ret (doneL rfl [.agg #[.int .i64 0, .slice none 0 0], .int .i64 0] ⟨⟨_, _, rfl, run_loadBlk (by kernel_rfl) (H.blk 9 rfl) (vs := [.int .i64 0, .slice none 0 0]) rfl⟩, ⟨rfl, trivial⟩⟩ (v := .tuple #[.agg #[.int .i64 0, .slice none 0 0], .int .i64 0]) rfl ?_))); exact ⟨[lgB pl pd pt s at_ sq us br nu, tblA pt, diskA pd D], .inl ⟨fun ims => by rintro ⟨q1, q2, q3, q4, q5, q6, q7⟩; first | exact hh q1 | (exfalso; omega) | exact absurd (q6 i (by omega)).1 hi | (have q8 := q6 i (by omega); simp only [imgX, imgY] at q8; exfalso; omega) | exact absurd (show crcSum (catF F (hCnt (F 0))) = headU (F 0) from q7) ‹_›, rfl, rfl⟩, H.perm 10 [6, 2, 7] rfl rfl⟩
           ·refine k_skip (s_region (s_L 2 [1, 0] (mm1 (H.blk 3 rfl) mm0) rfl (by kernel_rfl) rfl (s_do rfl rfl rfl (d_loadAgg rfl rfl (vs := [.int .i64 ((imgOf (F (1 + i))).num), .int .i64 ((imgOf (F (1 + i))).kind), .slice (some ⟨g3, 0, none⟩) 240 cap3]) (by kernel_rfl) (here ((H.blk 0 rfl).part 0 3 _ rfl))) (s_go rfl rfl rfl (n_buildSlice H rfl (by kernel_rfl) (Elt.mk (P := Tryz.prog) (e := 98) (z := .agg #[.int .i64 0, .int .i64 0, .slice none 0 0]) (sz := 3) (by_ := 40) (by kernel_rfl) rfl (by omega) (by omega)) rfl (by decide) (by decide) (out := [.int .i64 ((imgOf (F (1 + i))).num), .int .i64 ((imgOf (F (1 + i))).kind), .slice (some ⟨g3, 0, none⟩) 240 cap3]) (by kernel_rfl)) ?_)))); rintro _ w ⟨b8, rfl, H'⟩; have H := H'.l11; clear H'; refine s_go rfl rfl rfl (n_append 5 H rfl rfl (by kernel_rfl) (Elt.mk (P := Tryz.prog) (e := 98) (z := .agg #[.int .i64 0, .int .i64 0, .slice none 0 0]) (sz := 3) (by_ := 40) (by kernel_rfl) rfl (by omega) (by omega)) rfl rfl (H.rd 0 rfl (fun h q => q.rd (by omega) (by omega) (by simp) rfl)) (by simp [Value.oneCell']) (by omega)) ?_; rintro v9 w H'; have H' : Sep z (blk b8 [.int .i64 ((imgOf (F (1 + i))).num), .int .i64 ((imgOf (F (1 + i))).kind), .slice (some ⟨g3, 0, none⟩) 240 cap3] 98 :: blk b7 [.int .i64 ((imgOf (F (1 + i))).num), .int .i64 ((imgOf (F (1 + i))).kind), .slice (some ⟨g3, 0, none⟩) 240 cap3] 98 :: poolA hq6 :: tblA pt :: blk b6 [.int .i64 sq, v] 95 :: grow 98 3 v9 (i + 1) (imC es ++ [.int .i64 ((imgOf (F (1 + i))).num), .int .i64 ((imgOf (F (1 + i))).kind), .slice (some ⟨g3, 0, none⟩) 240 cap3]) :: blk b3 [.int .i64 (headE (F 0)), .int .i64 (headS (F 0)), .slice ao1 (hCnt (F 0)) cc1, u32 (headU (F 0))] 138 :: lgB pl pd pt s at_ sq us br nu :: diskA pd D :: blk b2 [.int .i64 0, .slice none 0 0] 95 :: blk b1 [.int .i64 0, .slice none 0 0] 95 :: R) w := H'
            have ev9 : (imC es ++ [.int .i64 ((imgOf (F (1 + i))).num), .int .i64 ((imgOf (F (1 + i))).kind), .slice (some ⟨g3, 0, none⟩) 240 cap3] : List Value) = imC (es ++ [(imgOf (F (1 + i)), .slice (some ⟨g3, 0, none⟩) 240 cap3)]) := imC_snoc es (imgOf (F (1 + i)), .slice (some ⟨g3, 0, none⟩) 240 cap3)
            rw [ev9] at H'; have H := H'.l11; clear H'; have sv9 := H.says 5 rfl (fun h q => q.slc)
            refine s_Q 1 [1] rfl (by kernel_rfl) (s_put rfl rfl (n_store 4 H rfl rfl rfl rfl (vs := [v9]) sv9.cells (one_cons sv9.one one_nil) (by kernel_rfl) (by simp) (out := [.int .i64 sq, v9]) rfl) ?_); rintro w H'; have H := H'.l11; clear H'; refine s_end (s_region (s_do rfl rfl rfl (d_add64 rfl rfl rfl (r := (i : Int) + 1) (by omega) (by omega)) (s_M 1 rfl rfl (s_end ?_)))); replace H := H.f1.d.d.f8.f8.f8.f8.f5.f8.f6.f8.f8; intro _ hF; refine ⟨⟨i + 1, v9, es ++ [(imgOf (F (1 + i)), .slice (some ⟨g3, 0, none⟩) 240 cap3)], hq6⟩, (hF.co rfl (by go_num) (hF.all rfl)), ⟨H, ?_⟩, ?_⟩
            ·refine ⟨by omega, by simp [hel], by simp [hes, List.range_succ], fun k o e => shq6 k o (hsub5 k o e), ?_, fun j hj => ?_⟩
             ·intro e he; rcases List.mem_append.1 he with q | q
              ·exact (hok e q).le shq6
              ·rw [List.mem_singleton.1 q]; simpa [imgOf, hF1] using hbody
             ·rcases Nat.lt_or_ge j i with q | q
              ·exact hall j q
              ·obtain rfl : j = i := by omega
               exact ⟨hi, by unfold imgX; omega, by unfold imgY; omega, by omega, Decidable.of_not_not ‹_›⟩
            ·omega
       ·have H := H'.l9; clear H'; refine s_M 5 rfl rfl (s_go rfl rfl rfl (n_alloc (P := Tryz.prog) H rfl (zs := [.int .i64 0, .int .i64 0, .slice none 0 0]) (by kernel_rfl)) ?_); rintro _ w ⟨b10, rfl, H'⟩; have H := H'.l10; clear H'; refine s_M 2 rfl rfl (s_put rfl rfl (n_store 0 H rfl rfl rfl rfl (vs := [.int .i64 0, .int .i64 0, .slice none 0 0]) rfl (by simp [u8, u32, Value.oneCell']) (by kernel_rfl) (by simp) (out := [.int .i64 0, .int .i64 0, .slice none 0 0]) rfl) ?_); rintro w H'; have H := H'.l10; clear H'; refine s_M 1 rfl rfl (s_end (k_seq (k_seq (q_region (Sep z _) (by kernel_rfl) (by kernel_rfl) H.drew (q_M 30 [] rfl (by kernel_rfl) (q_end (fun w H' => ?_))))))); have H := H'.l10; clear H'; refine k_true rfl (k_seq (s_region (s_do rfl rfl rfl (d_loadAgg rfl rfl (vs := [.int .i64 0, .slice none 0 0]) (by kernel_rfl) (here ((H.blk 8 rfl).part 0 2 _ rfl))) (s_put rfl rfl (n_store 9 H rfl rfl rfl rfl (vs := [.int .i64 0, .slice none 0 0]) rfl (by simp [u8, u32, Value.oneCell']) (by kernel_rfl) (by simp) (out := [.int .i64 0, .slice none 0 0]) rfl) ?_)))); rintro w H'; have H := H'.l10; clear H'; refine s_M 1 rfl rfl (s_end (k_ret (doneL rfl [.agg #[.int .i64 0, .slice none 0 0], .int .i64 0] ⟨⟨_, _, rfl, run_loadBlk (by kernel_rfl) (H.blk 9 rfl) (vs := [.int .i64 0, .slice none 0 0]) rfl⟩, ⟨rfl, trivial⟩⟩ (v := .tuple #[.agg #[.int .i64 0, .slice none 0 0], .int .i64 0]) rfl ?_))); exact ⟨[lgB pl pd pt s at_ sq us br nu, tblA pt, diskA pd D], .inl ⟨fun ims => by rintro ⟨q1, q2, q3, q4, q5, q6, q7⟩; first | exact hh q1 | (exfalso; omega) | exact absurd (q6 i (by omega)).1 hi | (have q8 := q6 i (by omega); simp only [imgX, imgY] at q8; exfalso; omega) | exact absurd (show crcSum (catF F (hCnt (F 0))) = headU (F 0) from q7) ‹_›, rfl, rfl⟩, H.perm 10 [6, 1, 7] rfl rfl⟩
      ·obtain rfl : i = hCnt (F 0) := by omega
       refine k_exit (k_here (k_seq (s_region (s_do rfl rfl rfl (d_loadAgg rfl rfl (vs := [.int .i64 sq, v]) (by kernel_rfl) (here ((H.blk 0 rfl).part 0 2 _ rfl))) (s_put rfl rfl (n_store 8 H rfl rfl rfl rfl (vs := [.int .i64 sq, v]) rfl (one_cons rfl (one_cons sv.one one_nil)) (by kernel_rfl) (by simp) (out := [.int .i64 sq, v]) rfl) ?_))))); rintro w H'; have H := H'.l9; clear H'; refine s_M 1 rfl rfl (s_end (k_ret (doneL rfl [.agg #[.int .i64 sq, v], .int .i64 0] ⟨⟨_, _, rfl, run_loadBlk (by kernel_rfl) (H.blk 8 rfl) (vs := [.int .i64 sq, v]) rfl⟩, ⟨rfl, trivial⟩⟩ (v := .tuple #[.agg #[.int .i64 sq, v], .int .i64 0]) rfl ?_))); replace H := H.f1.f2; obtain ⟨hq7, ⟨shq7, him7⟩, H'⟩ := pool_rd H (fun h q => q.rd); clear H; have H := H'.l8; clear H'; exact ⟨[poolA hq7, lgB pl pd pt s at_ sq us br nu, tblA pt, diskA pd D], .inr ⟨_, v, hq7, ⟨hh, by omega, by omega, by omega, rfl, fun j hj => ⟨(hall j hj).1, (hall j hj).2.1, (hall j hj).2.2.1, (hall j hj).2.2.2.1⟩, (hall 0 (by omega)).2.2.2.2⟩, rfl, ⟨es, hes, by simpa using him7, hok.le shq7⟩, rfl⟩, H.perm 8 [0, 4, 3, 5] rfl rfl⟩
 ·have H := H'.l6; clear H'; refine s_M 3 rfl rfl (s_go rfl rfl rfl (n_alloc (P := Tryz.prog) H rfl (zs := [.int .i64 0, .int .i64 0, .slice none 0 0, u32 0]) (by kernel_rfl)) ?_); rintro _ w ⟨b11, rfl, H'⟩; have H := H'.l7; clear H'; refine s_put rfl rfl (n_store 0 H rfl rfl rfl rfl (vs := [.int .i64 0, .int .i64 0, .slice none 0 0, u32 0]) rfl (by simp [u8, u32, Value.oneCell']) (by kernel_rfl) (by simp) (out := [.int .i64 0, .int .i64 0, .slice none 0 0, u32 0]) rfl) ?_; rintro w H'; have H := H'.l7; clear H'; refine s_M 1 rfl rfl (s_end (k_seq (k_seq (q_region (Sep z _) (by kernel_rfl) (by kernel_rfl) H.drew (q_M 38 [] rfl (by kernel_rfl) (q_end (fun w H' => ?_))))))); have H := H'.l7; clear H'; refine k_true rfl (k_seq (s_region (s_do rfl rfl rfl (d_loadAgg rfl rfl (vs := [.int .i64 0, .slice none 0 0]) (by kernel_rfl) (here ((H.blk 5 rfl).part 0 2 _ rfl))) (s_put rfl rfl (n_store 6 H rfl rfl rfl rfl (vs := [.int .i64 0, .slice none 0 0]) rfl (by simp [u8, u32, Value.oneCell']) (by kernel_rfl) (by simp) (out := [.int .i64 0, .slice none 0 0]) rfl) ?_)))); rintro w H'; have H := H'.l7; clear H'; refine s_M 1 rfl rfl (s_end (k_ret (doneL rfl [.agg #[.int .i64 0, .slice none 0 0], .int .i64 0] ⟨⟨_, _, rfl, run_loadBlk (by kernel_rfl) (H.blk 6 rfl) (vs := [.int .i64 0, .slice none 0 0]) rfl⟩, ⟨rfl, trivial⟩⟩ (v := .tuple #[.agg #[.int .i64 0, .slice none 0 0], .int .i64 0]) rfl ?_))); exact ⟨[lgB pl pd pt s at_ sq us br nu, tblA pt, diskA pd D], .inl ⟨fun ims => by rintro ⟨q1, q2, q3, q4, q5, q6, q7⟩; first | exact hh q1 | (exfalso; omega) | exact absurd (q6 i (by omega)).1 hi | (have q8 := q6 i (by omega); simp only [imgX, imgY] at q8; exfalso; omega) | exact absurd (show crcSum (catF F (hCnt (F 0))) = headU (F 0) from q7) ‹_›, rfl, rfl⟩, H.perm 7 [3, 1, 4] rfl rfl⟩
end Go.Proofs.YtbegkbjigbkljaaGreatDoor
namespace Go.Proofs.YtbegkbjigbkljaaGreatDoor
open Go.RowKit
theorem lnewD_c (pd pt : Nat) (D : Dsk) (s : Sup) (hok : s.Ok (D.n : Int)) : Cn Tryz.prog 67 [.pointer (some ⟨pd, 0, none⟩), .pointer (some ⟨pt, 0, none⟩), .agg #[.int .i64 s.gen, .int .i64 s.epoch, .int .i64 s.pages, .int .i64 s.start, .int .i64 s.len, .int .i64 s.head, .int .i64 s.seq]] [diskA pd D] (fun v Γ => ∃ pl, v = .pointer (some ⟨pl, 0, none⟩) ∧ Γ = [lgB pl pd pt s s.head s.seq 0 false (decide (s.epoch < 4294967296)), diskA pd D]) := by
  refine Cn.mono (Cn.onDisk (post := fun v Γ => ∃ pl, v = .pointer (some ⟨pl, 0, none⟩) ∧ Γ = [lgB pl pd pt s s.head s.seq 0 false (decide (s.epoch < 4294967296))]) (fun hD bd m f0 => ?_)) ?_
  · have hn2 := hD.n2
    refine Cn.mono (lnew_ok pd bd m (D.n * 256) f0 D.f1 D.f2 D.f3 D.left D.cut pt s (by omega) (by rw [show ((D.n * 256 : Nat) : Int) / 256 = (D.n : Int) from by omega]; exact hok)) ?_
    rintro v Γ ⟨pl, rfl, rfl⟩
    exact ⟨_, ⟨pl, rfl, rfl⟩, rfl⟩
  · rintro v Γ ⟨Γ', ⟨pl, rfl, rfl⟩, rfl⟩
    exact ⟨pl, rfl, rfl⟩
set_option maxHeartbeats 1000000 in
theorem open_c (pd pt : Nat) (s : Sup) (D : Dsk) (hok : s.Ok (D.n : Int)) (hf1 : D.f1 = 0) : Cn Tryz.prog 65 [.pointer (some ⟨pd, 0, none⟩), .pointer (some ⟨pt, 0, none⟩), .agg #[.int .i64 s.gen, .int .i64 s.epoch, .int .i64 s.pages, .int .i64 s.start, .int .i64 s.len, .int .i64 s.head, .int .i64 s.seq]] [tblA pt, diskA pd D] (fun v Γ => ∃ pl rs a q u v' hq, v = .tuple #[.pointer (some ⟨pl, 0, none⟩), v', .int .i64 0] ∧ Runs D s s.head s.seq 0 rs a q u ∧ (s.len ≤ u ∨ ∀ ims, ¬ nextP (stepF D s a) s.epoch q (s.len - u) ims) ∧ recsH v' rs hq ∧ Γ = [poolA hq, lgB pl pd pt s a q u false (decide (s.epoch < 4294967296)), tblA pt, diskA pd D]) := by
 intro z R w H'; have H : Sep z (tblA pt :: diskA pd D :: R) w := H'
 clear H'; have hn2 := H.says 1 rfl (fun h q => (diskA.ok q).n2)
 have hsg := Sup.get hok
 have hr : 0 ≤ s.start ∧ 0 < s.len ∧ s.start + s.len ≤ D.n := by have := hok.2; omega
 have hhd := hok.2.2.2.2.2.2.2
 refine enter Tryz.func65 rfl 50 Tryz.ntmps65 rfl (k_seq (s_region (s_go rfl rfl rfl (n_box H rfl rfl (cs := [.int .i64 s.gen, .int .i64 s.epoch, .int .i64 s.pages, .int .i64 s.start, .int .i64 s.len, .int .i64 s.head, .int .i64 s.seq]) rfl) ?_))); rintro _ w ⟨b1, rfl, H'⟩; have H := H'.l3; clear H'; refine s_M 3 rfl rfl (s_end (k_seq (s_region (s_M 2 rfl rfl (s_do rfl rfl rfl (d_loadAgg rfl rfl (vs := [.int .i64 s.gen, .int .i64 s.epoch, .int .i64 s.pages, .int .i64 s.start, .int .i64 s.len, .int .i64 s.head, .int .i64 s.seq]) (by kernel_rfl) (here ((H.blk 0 rfl).part 0 7 _ rfl))) (s_C rfl rfl rfl rfl rfl (fun w => Tryz.call67 _ w) (lnewD_c _ _ _ s hok) H.f2 rfl ?_)))))); rintro _ w _ ⟨pl, rfl, rfl⟩ H'; have H := H'.l4; clear H'; refine s_M 1 rfl rfl (s_end (k_seq (k_seq (s_region (s_M 1 rfl rfl (s_do rfl rfl rfl (d_eql_pn rfl (by kernel_rfl) rfl rfl) (s_end (k_false rfl (k_skip (k_seq (s_region (s_M 1 rfl rfl (s_end ?_))))))))))))); have H' := H.nilg 95 2
 have H := H'.l5; clear H'; have H' := pool0 H
 have H := H'.l6; clear H'; refine k_seq (k_block ?_); refine c_loop (σ := List RcE × Value × Int × Int × Int × Hp) (fun ⟨es, v, a, q, u, hq⟩ => [(10, v), (5, .pointer (some ⟨b1, 0, none⟩)), (9, .pointer (some ⟨pl, 0, none⟩))])
   (fun ⟨es, v, a, q, u, hq⟩ w => Sep z (poolA hq :: grow 95 2 v es.length (rcC es) :: lgB pl pd pt s a q u false (decide (s.epoch < 4294967296)) :: diskA pd D :: blk b1 [.int .i64 s.gen, .int .i64 s.epoch, .int .i64 s.pages, .int .i64 s.start, .int .i64 s.len, .int .i64 s.head, .int .i64 s.seq] 49 :: tblA pt :: R) w ∧ (Runs D s s.head s.seq 0 (es.map Prod.fst) a q u ∧ rcesOk es hq ∧ (0 ≤ a ∧ a ≤ 4096) ∧ (s.seq ≤ q ∧ q ≤ s.seq + u) ∧ (0 ≤ u ∧ u ≤ s.len) ∧ es.length ≤ u)) (fun ⟨es, v, a, q, u, hq⟩ => (s.len - u).toNat) ⟨[], .slice none 0 0, s.head, s.seq, 0, (fun _ => none)⟩
   (fun _ hF => (hF.co rfl (by go_num) (hF.all rfl))) ⟨H, .nil _ _ _, fun e he => absurd he (by simp), by omega, by omega, by omega, by simp⟩ ?_
 clear H; rintro ⟨es, v, a, q, u, hq⟩ w ⟨H', hI⟩; dsimp only at hI H' ⊢
 have H := H'.l6; clear H'; have sv := H.says 1 rfl (fun h q => q.slc)
 obtain ⟨hrun, hok2, ha, hq1, hu, hel⟩ := hI; refine k_seq (k_seq (q_region (Sep z _) (by kernel_rfl) (by kernel_rfl) H.drew (q_L 7 [11, 0, 4, 1] (fun _ hx => (mm1 (hx.blk 2 rfl) (mm1 (hx.blk 4 rfl) mm0))) rfl (by kernel_rfl) rfl (q_end (fun w H' => ?_))))); have H := H'.l6; clear H'; refine k_dec rfl (fun h1 => ?_) (fun h1 => ?_)
 ·refine k_skip (k_block (k_seq (s_region (s_M 1 rfl rfl (s_C rfl rfl rfl rfl rfl (fun w => Tryz.call105 _ w) (next_c _ _ _ _ _ _ _ _ _ _ hf1 hr (by omega) (by omega) (by omega) (stepF D s a) (fun j => rfl)) H.f3.f5.f4 rfl ?_))))); rintro _ w _ (⟨hno, rfl, rfl⟩ | ⟨ims, v1, hq1, hyes, rfl, him, rfl⟩) H'
  ·have H := H'.l6; clear H'; have hcase := True.intro
   refine s_M 3 rfl rfl (s_go rfl rfl rfl (n_alloc (P := Tryz.prog) H rfl (zs := [.int .i64 0, .slice none 0 0]) (by kernel_rfl)) ?_); rintro _ w ⟨b2, rfl, H'⟩; have H := H'.l7; clear H'; refine s_put rfl rfl (n_store 0 H rfl rfl rfl rfl (vs := [.int .i64 0, .slice none 0 0]) rfl (by simp [u8, u32, Value.oneCell']) (by kernel_rfl) (by simp) (out := [.int .i64 0, .slice none 0 0]) rfl) ?_; rintro w H'; have H := H'.l7; clear H'; refine s_M 1 rfl rfl (s_end (k_seq (k_seq (s_region (s_M 2 rfl rfl (k_updA 32 (u := .bool (decide ((0 : Int) ≠ 0))) (v := .bool false) rfl (congrArg Value.bool (by decide)) (s_end (k_false rfl (k_skip (k_seq (k_seq (s_region (s_L 2 [1, 0] (mm1 (H.blk 0 rfl) mm0) rfl (by kernel_rfl) rfl ?_))))))))))))); refine s_do rfl rfl rfl (d_len rfl (z := 3) (by kernel_rfl) rfl) (s_M 1 rfl rfl (k_updA 37 (u := .bool (decide ((0 : Int) = 0))) (v := .bool true) rfl (congrArg Value.bool (by decide)) (s_end (k_true rfl (k_exit (k_out rfl (k_here (k_seq (s_region (s_M 5 rfl rfl (s_end (k_ret (doneL rfl [.pointer (some ⟨pl, 0, none⟩), v, .int .i64 0] ⟨rfl, ⟨rfl, ⟨rfl, trivial⟩⟩⟩ (v := .tuple #[.pointer (some ⟨pl, 0, none⟩), v, .int .i64 0]) rfl ?_))))))))))))); replace H := H.f5.f5; obtain ⟨hq7, ⟨shq7, hrs7⟩, H'⟩ := pool_rd H (fun h q => q.rd); clear H; have H := H'.l6; clear H'; exact ⟨[poolA hq7, lgB pl pd pt s a q u false (decide (s.epoch < 4294967296)), tblA pt, diskA pd D], ⟨pl, es.map Prod.fst, a, q, u, v, hq7, rfl, hrun, by first | exact .inl (by omega) | exact .inr hno, ⟨es, rfl, by simpa using hrs7, hok2.le shq7⟩, rfl⟩, H.perm 6 [0, 2, 3, 4] rfl rfl⟩
  ·have H := H'.l7; clear H'; obtain ⟨ao1, cc1, hv1⟩ := him.slc; have sv1 : Slc v1 ims.length := ⟨ao1, cc1, hv1⟩
   clear hv1; have hlen := hyes.len
   refine s_M 3 rfl rfl (s_go rfl rfl rfl (n_alloc (P := Tryz.prog) H rfl (zs := [.int .i64 0, .slice none 0 0]) (by kernel_rfl)) ?_); rintro _ w ⟨b3, rfl, H'⟩; have H := H'.l8; clear H'; refine s_put rfl rfl (n_store 0 H rfl rfl rfl rfl (vs := [.int .i64 q, v1]) rfl (one_cons rfl (one_cons sv1.one one_nil)) (by kernel_rfl) (by simp) (out := [.int .i64 q, v1]) rfl) ?_; rintro w H'; have H := H'.l8; clear H'; refine s_M 1 rfl rfl (s_end (k_seq (k_seq ?_))); replace H := H.f1.f5; obtain ⟨hq2, ⟨shq2, him2⟩, H'⟩ := pool_any H (M := imgsH v1 ims) (fun h q => him.le q) (fun _ _ a b => a.le b); clear H; have H := H'.l7; clear H'; refine s_region (s_M 2 rfl rfl (k_updA 32 (u := .bool (decide ((0 : Int) ≠ 0))) (v := .bool false) rfl (congrArg Value.bool (by decide)) (s_end (k_false rfl (k_skip (k_seq (k_seq (s_region (s_L 2 [1, 0] (mm1 (H.blk 1 rfl) mm0) rfl (by kernel_rfl) rfl (s_do rfl rfl rfl (d_lenV rfl (sz := 3) (by kernel_rfl) rfl sv1) (s_M 1 rfl rfl (s_end (k_dec rfl (fun h2 => ?_) (fun h2 => ?_))))))))))))))
   ·(exfalso; omega)
   ·refine k_skip (k_seq (s_region (s_M 1 rfl rfl (s_do rfl rfl rfl (d_loadAgg rfl rfl (vs := [.int .i64 q, v1]) (by kernel_rfl) (here ((H.blk 1 rfl).part 0 2 _ rfl))) (s_go rfl rfl rfl (n_buildSlice H rfl (by kernel_rfl) (Elt.mk (P := Tryz.prog) (e := 95) (z := .agg #[.int .i64 0, .slice none 0 0]) (sz := 2) (by_ := 32) (by kernel_rfl) rfl (by omega) (by omega)) rfl (by decide) (by decide) (out := [.int .i64 q, v1]) (by kernel_rfl)) ?_))))); rintro _ w ⟨b4, rfl, H'⟩; have H := H'.l8; clear H'; refine s_go rfl rfl rfl (n_append 6 H rfl rfl (by kernel_rfl) (Elt.mk (P := Tryz.prog) (e := 95) (z := .agg #[.int .i64 0, .slice none 0 0]) (sz := 2) (by_ := 32) (by kernel_rfl) rfl (by omega) (by omega)) rfl rfl (H.rd 0 rfl (fun h q => q.rd (by omega) (by omega) (by simp) rfl)) (one_cons rfl (one_cons sv1.one one_nil)) (by omega)) ?_; rintro v5 w H'; have H' : Sep z (blk b4 [.int .i64 q, v1] 95 :: poolA hq2 :: blk b3 [.int .i64 q, v1] 95 :: lgB pl pd pt s a q u false (decide (s.epoch < 4294967296)) :: tblA pt :: diskA pd D :: grow 95 2 v5 (es.length + 1) (rcC es ++ [.int .i64 q, v1]) :: blk b1 [.int .i64 s.gen, .int .i64 s.epoch, .int .i64 s.pages, .int .i64 s.start, .int .i64 s.len, .int .i64 s.head, .int .i64 s.seq] 49 :: R) w := H'
    have ev5 : (rcC es ++ [.int .i64 q, v1] : List Value) = rcC (es ++ [(⟨q, ims⟩, v1)]) := rcC_snoc es (⟨q, ims⟩, v1)
    rw [ev5] at H'; rw [show (es.length + 1 : Nat) = (es ++ [((⟨q, ims⟩ : Rc), v1)]).length from by simp] at H'; have H := H'.l8; clear H'; have sv5 := H.says 6 rfl (fun h q => q.slc)
    refine s_M 1 rfl rfl (s_end (s_region (s_L 3 [1, 0] (mm1 (H.blk 2 rfl) mm0) rfl (by kernel_rfl) rfl (s_do rfl rfl rfl (d_lenV rfl (sz := 3) (by kernel_rfl) rfl sv1) (s_do rfl rfl rfl (d_add64 rfl rfl rfl (r := 1 + (ims.length : Int)) (by omega) (by omega)) (s_C rfl rfl rfl rfl rfl (fun w => Tryz.call106 _ w) (passed_c _ _ _ _ _ _ _ _ _ _ (by omega) (by omega) (by omega) (by omega) (by omega)) H.f3 rfl ?_)))))); rintro _ w _ ⟨rfl, rfl⟩ H'; have H := H'.l8; clear H'; refine s_end ?_; replace H := H.f3.d.f1.d.f2.f5.f4.f3.f5.f5; intro _ hF; refine ⟨⟨es ++ [(⟨q, ims⟩, v1)], v5, (a + (1 + (ims.length : Int))) % s.len, q + 1, u + (1 + (ims.length : Int)), hq2⟩, (hF.all rfl), ⟨H, ?_⟩, ?_⟩
    ·dsimp only
     have hm1 := Int.emod_nonneg (a + (1 + (ims.length : Int))) (by omega : s.len ≠ 0)
     have hm2 := Int.emod_lt_of_pos (a + (1 + (ims.length : Int))) (by omega : 0 < s.len)
     refine ⟨?_, ?_, by omega, by omega, by omega, by simp; omega⟩
     ·rw [List.map_append]; exact .snoc hrun (by omega) hyes
     ·intro e he; rcases List.mem_append.1 he with q | q
      ·exact (hok2 e q).le shq2
      ·rw [List.mem_singleton.1 q]; exact him2
    ·(dsimp only; omega)
 ·refine k_exit (k_here (k_seq (s_region (s_M 5 rfl rfl (s_end (k_ret (doneL rfl [.pointer (some ⟨pl, 0, none⟩), v, .int .i64 0] ⟨rfl, ⟨rfl, ⟨rfl, trivial⟩⟩⟩ (v := .tuple #[.pointer (some ⟨pl, 0, none⟩), v, .int .i64 0]) rfl ?_))))))); obtain ⟨hq7, ⟨shq7, hrs7⟩, H'⟩ := pool_rd H (fun h q => q.rd); clear H; have H := H'.l5; clear H'; exact ⟨[poolA hq7, lgB pl pd pt s a q u false (decide (s.epoch < 4294967296)), tblA pt, diskA pd D], ⟨pl, es.map Prod.fst, a, q, u, v, hq7, rfl, hrun, by first | exact .inl (by omega) | exact .inr hno, ⟨es, rfl, by simpa using hrs7, hok2.le shq7⟩, rfl⟩, H.perm 5 [0, 1, 4, 2] rfl rfl⟩
end Go.Proofs.YtbegkbjigbkljaaGreatDoor
namespace Go.Proofs.YtbegkbjigbkljaaGreatDoor
open Go.RowKit
set_option maxHeartbeats 1000000 in
theorem record_c (pl pd pt : Nat) (s : Sup) (at_ sq us : Int) (br nu : Bool) (v : Value) (ims : List Img) (A : Asn) (hA : ∀ h, A h → imgsH v ims h) (hnu : nu = decide (s.epoch < 4294967296)) (hep0 : 0 ≤ s.epoch ∧ s.epoch ≤ 1099511627776) (hsq : 0 ≤ sq ∧ sq ≤ 2199023255552) (hlen : 1 ≤ ims.length ∧ ims.length ≤ 40) (hsl : 0 ≤ s.len ∧ s.len ≤ 1099511627776) (hu : 0 ≤ us ∧ us ≤ 2199023255552) : Cn Tryz.prog 131 [.pointer (some ⟨pl, 0, none⟩), v] [lgB pl pd pt s at_ sq us br nu, tblA pt, A] (fun v Γ => (¬ recOK ims ∧ v = .tuple #[.slice none 0 0, .int .i64 1] ∧ Γ = [lgB pl pd pt s at_ sq us br nu, tblA pt, A]) ∨ (recOK ims ∧ ¬ (1 + (ims.length : Int) ≤ (if br then 0 else s.len - us) ∧ nu = true ∧ sq < 1099511627776) ∧ v = .tuple #[.slice none 0 0, .int .i64 15] ∧ Γ = [lgB pl pd pt s at_ sq us br nu, tblA pt, A]) ∨ (recOK ims ∧ (1 + (ims.length : Int) ≤ (if br then 0 else s.len - us) ∧ nu = true ∧ sq < 1099511627776) ∧ ∃ v', v = .tuple #[v', .int .i64 0] ∧ Γ = [grow 5 1 v' ((1 + ims.length) * 256) ((recB s.epoch sq ims).flatten.map u8), lgB pl pd pt s at_ sq us br nu, tblA pt, A])) := by
 intro z R w H'; have H : Sep z (lgB pl pd pt s at_ sq us br nu :: tblA pt :: A :: R) w := H'
 clear H'; obtain ⟨ao, ic, rfl⟩ := H.says 2 rfl (fun h q => (hA h q).slc); obtain ⟨es, hes, H'⟩ := Sep.imA 2 H rfl hA; clear H; have hel : es.length = ims.length := by rw [← hes]; simp
 have H := H'.l3; clear H'; refine enter Tryz.func131 rfl 130 Tryz.ntmps131 rfl (k_seq (s_region (s_M 2 rfl rfl (s_end (k_seq (s_region (s_M 1 rfl rfl (s_end (k_seq (s_region (s_go rfl rfl rfl (n_makeMap H rfl) ?_))))))))))); rintro _ w ⟨m1, rfl, H'⟩; have H := H'.l4; clear H'; refine s_M 1 rfl rfl (s_end (k_seq ?_)); replace H := H.f1; refine a_region (Sep z (lgB pl pd pt s at_ sq us br nu :: R)) 12 rfl (by kernel_rfl) (fun w' x' _ => ?_); have H' := H.ext0 x'; clear x' H; revert H'; generalize w' = w; intro H'
 have H := H'.l4; clear H'; refine a_L [0, 1, 2, 3, 4, 5, 6, 7, 8] [2, 3, 0, 10, 0] (fun _ hx => (mm1 (hx.blk 0 rfl) mm0)) (by exact (H.pick 4 [0] rfl)) rfl (by kernel_rfl) rfl rfl (a_do 9 rfl (by kernel_rfl) (by kernel_rfl) (by kernel_rfl) rfl rfl rfl (d_build rfl rfl (out := [.int .i64 s.epoch, .int .i64 sq, .slice none 0 0, u32 0]) (by kernel_rfl)) (H.pick 4 [0] rfl) (a_all [10] (by kernel_rfl) (by simp) (all1 (o_go rfl rfl rfl rfl (n_alloc (P := Tryz.prog) H rfl (zs := [.int .i64 0, .int .i64 0, .slice none 0 0, u32 0]) (by kernel_rfl)) ?_)))); rintro _ w ⟨b2, rfl, H'⟩; have H := H'.l5; clear H'; refine a_and (H.pick 5 [1] rfl) (a_all [11] (by kernel_rfl) (by simp) (all1 (o_put rfl rfl rfl (n_store 0 H rfl rfl rfl rfl (vs := [.int .i64 s.epoch, .int .i64 sq, .slice none 0 0, u32 0]) rfl (by simp [u8, u32, Value.oneCell']) (by kernel_rfl) (by simp) (out := [.int .i64 s.epoch, .int .i64 sq, .slice none 0 0, u32 0]) rfl) ?_))); rintro w H'; have H := H'.l5; clear H'; refine a_and (H.pick 5 [1] rfl) (a_done (by kernel_rfl) (k_seq (k_seq (s_region (s_M 1 rfl rfl (s_do rfl rfl rfl (d_len rfl (z := 3) (by kernel_rfl) rfl) (s_M 1 rfl rfl (s_end ?_)))))))); have H' := H.nilg 3 1
 have H := H'.l6; clear H'; refine k_block ?_; refine c_loop (σ := Nat × Value) (fun ⟨i, v1⟩ => [(32, .int .i64 (i : Int)), (0, .pointer (some ⟨pl, 0, none⟩)), (1, .slice ao ims.length ic), (6, .slice none 0 0), (7, .map (some m1)), (8, .pointer (some ⟨b2, 0, none⟩)), (30, .slice ao ims.length ic), (31, .int .i64 (ims.length : Int))])
   (fun ⟨i, v1⟩ w => Sep z (grow 3 1 v1 i (nsC (ims.take i)) :: blk b2 [.int .i64 s.epoch, .int .i64 sq, v1, u32 0] 138 :: lgB pl pd pt s at_ sq us br nu :: mapB m1 (seen ((ims.take i).map Img.num)) (((ims.take i).map Img.num).length) :: tblA pt :: imA A (.slice ao ims.length ic) es :: R) w ∧ (i ≤ ims.length ∧ (∀ (j : Nat) (m : Img), j < i → ims[j]? = some m → m.Ok) ∧ ((ims.take i).map Img.num).Nodup)) (fun ⟨i, v1⟩ => ims.length - i) ⟨0, .slice none 0 0⟩
   (fun _ hF => (hF.co rfl (by go_num) (hF.all rfl))) ⟨H, by omega, fun j m h => by omega, by simp⟩ ?_
 clear H; rintro ⟨i, v1⟩ w ⟨H', hI⟩; dsimp only at hI H' ⊢
 have H := H'.l6; clear H'; have sv1 := H.says 0 rfl (fun h q => q.slc)
 obtain ⟨hin, hall, hnd⟩ := hI; refine k_seq (s_region (s_M 1 rfl rfl (s_end (k_seq (k_dec rfl (fun h1 => ?_) (fun h1 => ?_))))))
 ·have hlt : i < ims.length := by omega
  refine k_skip (k_seq (k_block (k_seq (s_region ?_)))); obtain ⟨⟨im, bv⟩, he⟩ : ∃ e : ImE, es[i]? = some e := ⟨_, List.getElem?_eq_getElem (by omega)⟩; have him : ims[i]? = some im := by rw [← hes]; simp [he]
  have sbv : Slc bv im.body.length := H.says 5 rfl (fun h q => (q.2.2 _ (List.mem_of_getElem? he)).slc)
  have hati := imA.at 5 H rfl he
  have hat := hati 0 (.int .i64 im.num) rfl
  refine s_do rfl rfl rfl (d_indexE rfl (z := 3) (j := i) (r := i * 3) (by kernel_rfl) rfl rfl rfl (by omega) hat (by omega)) (s_do rfl rfl rfl (d_loadAggE rfl rfl (vs := [.int .i64 im.num, .int .i64 im.kind, bv]) (by kernel_rfl) (by simp) (here hati)) (s_go rfl rfl rfl (n_alloc (P := Tryz.prog) H rfl (zs := [.int .i64 0, .int .i64 0, .slice none 0 0]) (by kernel_rfl)) ?_)); rintro _ w ⟨b3, rfl, H'⟩; have H := H'.l7; clear H'; refine s_put rfl rfl (n_store 0 H rfl rfl rfl rfl (vs := [.int .i64 im.num, .int .i64 im.kind, bv]) rfl (one_cons rfl (one_cons rfl (one_cons sbv.one one_nil))) (by kernel_rfl) (by simp) (out := [.int .i64 im.num, .int .i64 im.kind, bv]) rfl) ?_; rintro w H'; have H := H'.l7; clear H'; refine s_end (k_seq (k_seq ?_)); replace H := H.f3; refine a_region (Sep z (lgB pl pd pt s at_ sq us br nu :: blk b3 [.int .i64 im.num, .int .i64 im.kind, bv] 98 :: R)) 11 rfl (by kernel_rfl) (fun w' x' _ => ?_); have H' := H.ext0 x'; clear x' H; revert H'; generalize w' = w; intro H'
  have H := H'.l7; clear H'; refine a_L [0, 1, 2, 3] [1, 0] (fun _ hx => (mm1 (hx.blk 0 rfl) mm0)) (by exact (H.pick 7 [0, 1] rfl)) rfl (by kernel_rfl) rfl rfl (a_do 4 rfl (by kernel_rfl) (by kernel_rfl) (by kernel_rfl) rfl rfl rfl (d_loadAgg rfl rfl (vs := [.int .i64 im.num, .int .i64 im.kind, bv]) (by kernel_rfl) (fun _ hx => (hx.blk 1 rfl).part 0 3 _ rfl)) (H.pick 7 [0, 1] rfl) (a_all [5] (by kernel_rfl) (by simp) (all1 (o_C rfl rfl rfl rfl rfl rfl (fun w => Tryz.call107 _ w) (putPage_c _ _ _ _ im.body _ (fun h q => q.2.2 _ (List.mem_of_getElem? he))) H.f6.f6 rfl ?_)))); rintro _ w _ (⟨hbad, rfl, rfl⟩ | ⟨hgood, pw, rfl, rfl⟩) H'
  ·have H : Sep z (tblA pt :: imA A (.slice ao ims.length ic) es :: lgB pl pd pt s at_ sq us br nu :: blk b3 [.int .i64 im.num, .int .i64 im.kind, bv] 98 :: grow 3 1 v1 i (nsC (ims.take i)) :: blk b2 [.int .i64 s.epoch, .int .i64 sq, v1, u32 0] 138 :: mapB m1 (seen ((ims.take i).map Img.num)) (((ims.take i).map Img.num).length) :: R) w := H'
   clear H'; refine a_and (H.pick 7 [2, 3] rfl) (a_L [6, 7, 8, 9, 10] [] (fun _ _ => mm0) (by exact (H.pick 7 [2, 3] rfl)) rfl (by kernel_rfl) rfl rfl (a_done (by kernel_rfl) (k_seq (s_region (s_M 2 rfl rfl (k_updA 46 (u := .bool (decide ((1 : Int) ≠ 0))) (v := .bool true) rfl (congrArg Value.bool (by decide)) (s_M 6 rfl rfl (s_end (k_true rfl (k_seq (s_region (s_M 2 rfl rfl (s_end ?_))))))))))))); refine k_ret (doneL rfl [.slice none 0 0, .int .i64 1] ⟨rfl, ⟨rfl, trivial⟩⟩ (v := .tuple #[.slice none 0 0, .int .i64 1]) rfl ?_); have H' := H.mono 1 (B := A) rfl (fun h q => q.1)
   have H := H'.l7; clear H'; exact ⟨[lgB pl pd pt s at_ sq us br nu, tblA pt, A], .inl ⟨by rintro ⟨q1, q2⟩; first | exact hbad (q1 im (List.mem_of_getElem? him)) | (exact nodup_take q2 him ‹_›), rfl, rfl⟩, H.perm 7 [2, 0, 1] rfl rfl⟩
  ·have H : Sep z (blk pw (wrC (sect ([80, 80, 65, 71] ++ beN 1 im.kind ++ beN 4 im.num ++ [0, 0, 0] ++ im.body)) 252) 209 :: tblA pt :: imA A (.slice ao ims.length ic) es :: lgB pl pd pt s at_ sq us br nu :: blk b3 [.int .i64 im.num, .int .i64 im.kind, bv] 98 :: grow 3 1 v1 i (nsC (ims.take i)) :: blk b2 [.int .i64 s.epoch, .int .i64 sq, v1, u32 0] 138 :: mapB m1 (seen ((ims.take i).map Img.num)) (((ims.take i).map Img.num).length) :: R) w := H'
   clear H'; refine a_and (H.pick 8 [3, 4] rfl) (a_L [6, 7, 8, 9, 10] [] (fun _ _ => mm0) (by exact (H.pick 8 [3, 4] rfl)) rfl (by kernel_rfl) rfl rfl (a_done (by kernel_rfl) (k_seq (s_region (s_M 2 rfl rfl (k_updA 46 (u := .bool (decide ((0 : Int) ≠ 0))) (v := .bool false) rfl (congrArg Value.bool (by decide)) (s_L 4 [0, 0] (mm1 (H.blk 4 rfl) mm0) rfl (by kernel_rfl) rfl (s_do rfl rfl rfl (d_lookup (e := 4) (zv := .bool false) rfl (by kernel_rfl) (by kernel_rfl) rfl rfl (here (H.bk 7 rfl))) (k_updA 51 (u := (getM (seen ((ims.take i).map Img.num)) im.num).getD (.bool false)) (v := .bool (decide (im.num ∈ (ims.take i).map Img.num))) rfl (get_seen _ _) (s_M 1 rfl rfl (s_end (k_dec rfl (fun h2 => ?_) (fun h2 => ?_)))))))))))))
   ·refine k_seq (s_region (s_M 2 rfl rfl (s_end (k_ret (doneL rfl [.slice none 0 0, .int .i64 1] ⟨rfl, ⟨rfl, trivial⟩⟩ (v := .tuple #[.slice none 0 0, .int .i64 1]) rfl ?_))))); have H' := H.mono 2 (B := A) rfl (fun h q => q.1)
    have H := H'.l8; clear H'; exact ⟨[lgB pl pd pt s at_ sq us br nu, tblA pt, A], .inl ⟨by rintro ⟨q1, q2⟩; first | exact hbad (q1 im (List.mem_of_getElem? him)) | (exact nodup_take q2 him ‹_›), rfl, rfl⟩, H.perm 8 [3, 1, 2] rfl rfl⟩
   ·refine k_skip (k_seq (s_region (s_L 3 [0, 0] (mm1 (H.blk 4 rfl) mm0) rfl (by kernel_rfl) rfl (s_put rfl rfl (n_mapUpdate 7 (e := 4) H rfl rfl (by kernel_rfl) rfl rfl rfl) ?_)))); rintro w H'; have H := H'.l8; clear H'; refine s_end ?_; have htk : (ims.take (i + 1)).map Img.num = (ims.take i).map Img.num ++ [im.num] := by rw [List.take_add_one, him]; simp
    have hps := put_seen (ns := (ims.take i).map Img.num) (k := im.num) ‹_›
    rw [hps.1, hps.2, ← htk] at H; have H : Sep z (blk pw (wrC (sect ([80, 80, 65, 71] ++ beN 1 im.kind ++ beN 4 im.num ++ [0, 0, 0] ++ im.body)) 252) 209 :: tblA pt :: imA A (.slice ao ims.length ic) es :: lgB pl pd pt s at_ sq us br nu :: blk b3 [.int .i64 im.num, .int .i64 im.kind, bv] 98 :: grow 3 1 v1 i (nsC (ims.take i)) :: blk b2 [.int .i64 s.epoch, .int .i64 sq, v1, u32 0] 138 :: mapB m1 (seen ((ims.take (i + 1)).map Img.num)) (((ims.take (i + 1)).map Img.num).length) :: R) w := H
    refine s_region (s_L 4 [2, 0, 0, 1] (mm1 (H.blk 6 rfl) (mm1 (H.blk 4 rfl) mm0)) rfl (by kernel_rfl) rfl (s_go rfl rfl rfl (n_buildSlice H rfl (by kernel_rfl) (Elt.mk (P := Tryz.prog) (e := 3) (z := .int .i64 0) (sz := 1) (by_ := 8) (by kernel_rfl) rfl (by omega) (by omega)) rfl (by decide) (by decide) (out := [.int .i64 im.num]) (by kernel_rfl)) ?_)); rintro _ w ⟨b4, rfl, H'⟩; have H := H'.l9; clear H'; refine s_go rfl rfl rfl (n_append 6 H rfl rfl (by kernel_rfl) (Elt.mk (P := Tryz.prog) (e := 3) (z := .int .i64 0) (sz := 1) (by_ := 8) (by kernel_rfl) rfl (by omega) (by omega)) rfl rfl (H.rd 0 rfl (fun h q => q.rd (by omega) (by omega) (by simp) rfl)) (by simp [Value.oneCell']) (by omega)) ?_; rintro v5 w H'; have H' : Sep z (blk b4 [.int .i64 im.num] 3 :: blk pw (wrC (sect ([80, 80, 65, 71] ++ beN 1 im.kind ++ beN 4 im.num ++ [0, 0, 0] ++ im.body)) 252) 209 :: tblA pt :: imA A (.slice ao ims.length ic) es :: lgB pl pd pt s at_ sq us br nu :: blk b3 [.int .i64 im.num, .int .i64 im.kind, bv] 98 :: grow 3 1 v5 (i + 1) (nsC (ims.take i) ++ [.int .i64 im.num]) :: blk b2 [.int .i64 s.epoch, .int .i64 sq, v1, u32 0] 138 :: mapB m1 (seen ((ims.take (i + 1)).map Img.num)) (((ims.take (i + 1)).map Img.num).length) :: R) w := H'
    have ev5 : (nsC (ims.take i) ++ [.int .i64 im.num] : List Value) = nsC (ims.take (i + 1)) := nsC_snoc him
    rw [ev5] at H'; have H := H'.l9; clear H'; have sv5 := H.says 6 rfl (fun h q => q.slc)
    refine s_Q 1 [2] rfl (by kernel_rfl) (s_put rfl rfl (n_store 7 H rfl rfl rfl rfl (vs := [v5]) sv5.cells (one_cons sv5.one one_nil) (by kernel_rfl) (by simp) (out := [.int .i64 s.epoch, .int .i64 sq, v5, u32 0]) rfl) ?_); rintro w H'; have H := H'.l9; clear H'; refine s_end (s_region (s_do rfl rfl rfl (d_add64 rfl rfl rfl (r := (i : Int) + 1) (by omega) (by omega)) (s_M 1 rfl rfl (s_end ?_)))); replace H := H.f5.d.f1.d.d.f1.f1.f5.f3.f5.f5; intro _ hF; refine ⟨⟨i + 1, v5⟩, (hF.co rfl (by go_num) (hF.all rfl)), ⟨H, ?_⟩, ?_⟩
    ·dsimp only
     refine ⟨by omega, fun j m hj h => ?_, ?_⟩
     ·rcases Nat.lt_or_ge j i with q | q
      ·exact hall j m q h
      ·obtain rfl : j = i := by omega
       rw [him] at h; cases h; exact hgood
     ·rw [htk, List.nodup_append]; exact ⟨hnd, by simp, fun a ha b hb => by simp at hb; subst hb; exact fun e => absurd (e ▸ ha) ‹_›⟩
    ·(dsimp only; omega)
 ·obtain rfl : i = ims.length := by omega
  refine k_exit (k_here (k_seq (k_seq ?_))); rw [List.take_length] at H; rw [List.take_length] at hnd; have H : Sep z (grow 3 1 v1 ims.length (nsC ims) :: blk b2 [.int .i64 s.epoch, .int .i64 sq, v1, u32 0] 138 :: lgB pl pd pt s at_ sq us br nu :: mapB m1 (seen (ims.map Img.num)) ((ims.map Img.num).length) :: tblA pt :: imA A (.slice ao ims.length ic) es :: R) w := H
  have hallm : ∀ m ∈ ims, m.Ok := fun m hm => by obtain ⟨j, hj, rfl⟩ := List.mem_iff_getElem.1 hm; exact hall j _ hj (List.getElem?_eq_getElem hj)
  refine s_region (s_M 1 rfl rfl (s_do rfl rfl rfl (d_len rfl (z := 3) (by kernel_rfl) rfl) (s_do rfl rfl rfl (d_add64 rfl rfl rfl (r := 1 + (ims.length : Int)) (by omega) (by omega)) (s_M 1 rfl rfl (s_C rfl rfl rfl rfl rfl (fun w => Tryz.call128 _ w) (room_c _ _ _ _ _ _ _ _ _ (by omega)) H.f2 rfl ?_))))); rintro _ w _ ⟨rfl, rfl⟩ H'; have H := H'.l6; clear H'; refine s_M 2 rfl rfl (s_part 70 rfl (fun h3 => ?_) (fun h3 => ?_))
  ·refine s_M 13 rfl rfl (s_end (k_true rfl (k_seq (s_region (s_M 2 rfl rfl (s_end (k_ret (doneL rfl [.slice none 0 0, .int .i64 15] ⟨rfl, ⟨rfl, trivial⟩⟩ (v := .tuple #[.slice none 0 0, .int .i64 15]) rfl ?_)))))))); have H' := H.mono 5 (B := A) rfl (fun h q => q.1)
   have H := H'.l6; clear H'; exact ⟨[lgB pl pd pt s at_ sq us br nu, tblA pt, A], .inr (.inl ⟨⟨hallm, hnd⟩, by rintro ⟨q1, q2, q3⟩; first | omega | simp_all, rfl, rfl⟩), H.perm 6 [0, 4, 5] rfl rfl⟩
  ·refine s_L 7 [13, 0] (mm1 (H.blk 0 rfl) mm0) rfl (by kernel_rfl) rfl (s_part_b 77 rfl (fun h4 => ?_) (fun h4 => ?_))
   ·refine s_M 6 rfl rfl (s_end (k_true rfl (k_seq (s_region (s_M 2 rfl rfl (s_end (k_ret (doneL rfl [.slice none 0 0, .int .i64 15] ⟨rfl, ⟨rfl, trivial⟩⟩ (v := .tuple #[.slice none 0 0, .int .i64 15]) rfl ?_)))))))); have H' := H.mono 5 (B := A) rfl (fun h q => q.1)
    have H := H'.l6; clear H'; exact ⟨[lgB pl pd pt s at_ sq us br nu, tblA pt, A], .inr (.inl ⟨⟨hallm, hnd⟩, by rintro ⟨q1, q2, q3⟩; first | omega | simp_all, rfl, rfl⟩), H.perm 6 [0, 4, 5] rfl rfl⟩
   ·have hnt : nu = true := by simpa using h4
    have hep : s.epoch < 4294967296 := by rw [hnt] at hnu; simpa using hnu.symm
    refine s_L 6 [10, 0] (mm1 (H.blk 0 rfl) mm0) rfl (by kernel_rfl) rfl (s_end (k_dec rfl (fun h5 => ?_) (fun h5 => ?_)))
    ·refine k_seq (s_region (s_M 2 rfl rfl (s_end (k_ret (doneL rfl [.slice none 0 0, .int .i64 15] ⟨rfl, ⟨rfl, trivial⟩⟩ (v := .tuple #[.slice none 0 0, .int .i64 15]) rfl ?_))))); have H' := H.mono 5 (B := A) rfl (fun h q => q.1)
     have H := H'.l6; clear H'; exact ⟨[lgB pl pd pt s at_ sq us br nu, tblA pt, A], .inr (.inl ⟨⟨hallm, hnd⟩, by rintro ⟨q1, q2, q3⟩; first | omega | simp_all, rfl, rfl⟩), H.perm 6 [0, 4, 5] rfl rfl⟩
    ·refine k_skip (k_seq (k_seq (s_region (s_M 1 rfl rfl (s_do rfl rfl rfl (d_len rfl (z := 3) (by kernel_rfl) rfl) (s_M 1 rfl rfl (s_end ?_))))))); have H' := H.nilg 5 1
     have H := H'.l7; clear H'; refine k_block ?_; refine c_loop (σ := Nat × Value) (fun ⟨i, v2⟩ => [(86, .int .i64 (i : Int)), (6, v2), (0, .pointer (some ⟨pl, 0, none⟩)), (8, .pointer (some ⟨b2, 0, none⟩)), (84, .slice ao ims.length ic), (85, .int .i64 (ims.length : Int))])
       (fun ⟨i, v2⟩ w => Sep z (grow 5 1 v2 (i * 256) ((imgB s.epoch sq (ims.take i)).map u8) :: lgB pl pd pt s at_ sq us br nu :: grow 3 1 v1 ims.length (nsC ims) :: blk b2 [.int .i64 s.epoch, .int .i64 sq, v1, u32 0] 138 :: mapB m1 (seen (ims.map Img.num)) ((ims.map Img.num).length) :: tblA pt :: imA A (.slice ao ims.length ic) es :: R) w ∧ (i ≤ ims.length)) (fun ⟨i, v2⟩ => ims.length - i) ⟨0, .slice none 0 0⟩
       (fun _ hF => (hF.co rfl (by go_num) (hF.co rfl (by go_num) (hF.all rfl)))) ⟨H, by omega⟩ ?_
     clear H; rintro ⟨i, v2⟩ w ⟨H', hI⟩; dsimp only at hI H' ⊢
     have H := H'.l7; clear H'; have sv2 := H.says 0 rfl (fun h q => q.slc)
     have sv1 := H.says 2 rfl (fun h q => q.slc)
     have hin2 := hI; clear hI
     refine k_seq (s_region (s_M 1 rfl rfl (s_end (k_seq (k_dec rfl (fun h6 => ?_) (fun h6 => ?_))))))
     ·have hlt : i < ims.length := by omega
      refine k_skip (k_seq (k_block (k_seq (s_region ?_)))); obtain ⟨⟨im, bv⟩, he⟩ : ∃ e : ImE, es[i]? = some e := ⟨_, List.getElem?_eq_getElem (by omega)⟩; have him : ims[i]? = some im := by rw [← hes]; simp [he]
      have sbv : Slc bv im.body.length := H.says 6 rfl (fun h q => (q.2.2 _ (List.mem_of_getElem? he)).slc)
      have hati := imA.at 6 H rfl he
      have hat := hati 0 (.int .i64 im.num) rfl
      refine s_do rfl rfl rfl (d_indexE rfl (z := 3) (j := i) (r := i * 3) (by kernel_rfl) rfl rfl rfl (by omega) hat (by omega)) (s_do rfl rfl rfl (d_loadAggE rfl rfl (vs := [.int .i64 im.num, .int .i64 im.kind, bv]) (by kernel_rfl) (by simp) (here hati)) (s_go rfl rfl rfl (n_alloc (P := Tryz.prog) H rfl (zs := [.int .i64 0, .int .i64 0, .slice none 0 0]) (by kernel_rfl)) ?_)); rintro _ w ⟨b6, rfl, H'⟩; have H := H'.l8; clear H'; refine s_put rfl rfl (n_store 0 H rfl rfl rfl rfl (vs := [.int .i64 im.num, .int .i64 im.kind, bv]) rfl (one_cons rfl (one_cons rfl (one_cons sbv.one one_nil))) (by kernel_rfl) (by simp) (out := [.int .i64 im.num, .int .i64 im.kind, bv]) rfl) ?_; rintro w H'; have H := H'.l8; clear H'; refine s_end (k_seq ?_); replace H := H.f4.f3; refine a_region (Sep z (lgB pl pd pt s at_ sq us br nu :: blk b2 [.int .i64 s.epoch, .int .i64 sq, v1, u32 0] 138 :: blk b6 [.int .i64 im.num, .int .i64 im.kind, bv] 98 :: R)) 15 rfl (by kernel_rfl) (fun w' x' _ => ?_); have H' := H.ext0 x'; clear x' H; revert H'; generalize w' = w; intro H'
      have H := H'.l8; clear H'; refine a_L [0, 1, 2, 3, 4, 5, 6, 7] [1, 0, 0, 1, 1, 1] (fun _ hx => (mm1 (hx.blk 0 rfl) (mm1 (hx.blk 1 rfl) mm0))) (by exact (H.pick 8 [0, 1, 2] rfl)) rfl (by kernel_rfl) rfl rfl (a_do 8 rfl (by kernel_rfl) (by kernel_rfl) (by kernel_rfl) rfl rfl rfl (d_loadAgg rfl rfl (vs := [.int .i64 im.num, .int .i64 im.kind, bv]) (by kernel_rfl) (fun _ hx => (hx.blk 2 rfl).part 0 3 _ rfl)) (H.pick 8 [0, 1, 2] rfl) (a_all [9] (by kernel_rfl) (by simp) (all1 (o_C rfl rfl rfl rfl rfl rfl (fun w => Tryz.call149 _ w) (putImage_c _ _ _ _ _ _ im.body _ (fun h q => q.2.2 _ (List.mem_of_getElem? he))) H.f7.f7 rfl ?_)))); rintro _ w _ (⟨hbad, rfl, rfl⟩ | ⟨hgood, pw, rfl, rfl⟩) H'
      ·exact absurd ⟨by omega, by omega, hall i im (by omega) him⟩ hbad
      ·have H : Sep z (blk pw (wrC (sect (imgL s.epoch sq im)) 252) 209 :: tblA pt :: imA A (.slice ao ims.length ic) es :: lgB pl pd pt s at_ sq us br nu :: blk b2 [.int .i64 s.epoch, .int .i64 sq, v1, u32 0] 138 :: blk b6 [.int .i64 im.num, .int .i64 im.kind, bv] 98 :: grow 5 1 v2 (i * 256) ((imgB s.epoch sq (ims.take i)).map u8) :: grow 3 1 v1 ims.length (nsC ims) :: mapB m1 (seen (ims.map Img.num)) ((ims.map Img.num).length) :: R) w := H'
       clear H'; refine a_and (H.pick 9 [3, 4, 5] rfl) (a_L [10, 11, 12, 13, 14] [] (fun _ _ => mm0) (by exact (H.pick 9 [3, 4, 5] rfl)) rfl (by kernel_rfl) rfl rfl (a_done (by kernel_rfl) (k_seq (k_seq (s_region (s_M 2 rfl rfl (k_updA 104 (u := .bool (decide ((0 : Int) ≠ 0))) (v := .bool false) rfl (congrArg Value.bool (by decide)) (s_end (k_false rfl (k_skip (s_region (s_M 2 rfl rfl (s_go rfl rfl rfl (n_append 6 H rfl rfl (by kernel_rfl) (Elt.mk (P := Tryz.prog) (e := 5) (z := u8 0) (sz := 1) (by_ := 1) (by kernel_rfl) rfl (by omega) (by omega)) rfl rfl (H.rd 0 rfl (fun h q => wrC_rd (lo := 0) (n := 256) (c := 256) (ys := sect (imgL s.epoch sq im)) q (sect_len (Nat.le_of_eq (imgL_len hgood.2.2.2.2))) (by omega) (by omega) (by omega) (by rw [List.drop_zero]; exact List.take_of_length_le (Nat.le_of_eq (sect_len (Nat.le_of_eq (imgL_len hgood.2.2.2.2))))))) (by simp [u8, Value.oneCell']) (by omega)) ?_))))))))))))); rintro v7 w H'; have H' : Sep z (blk pw (wrC (sect (imgL s.epoch sq im)) 252) 209 :: tblA pt :: imA A (.slice ao ims.length ic) es :: lgB pl pd pt s at_ sq us br nu :: blk b2 [.int .i64 s.epoch, .int .i64 sq, v1, u32 0] 138 :: blk b6 [.int .i64 im.num, .int .i64 im.kind, bv] 98 :: grow 5 1 v7 ((i * 256) + 256) ((imgB s.epoch sq (ims.take i)).map u8 ++ (sect (imgL s.epoch sq im)).map u8) :: grow 3 1 v1 ims.length (nsC ims) :: mapB m1 (seen (ims.map Img.num)) ((ims.map Img.num).length) :: R) w := H'
       have ev7 : ((imgB s.epoch sq (ims.take i)).map u8 ++ (sect (imgL s.epoch sq im)).map u8 : List Value) = (imgB s.epoch sq (ims.take (i + 1))).map u8 := (by rw [← List.map_append, imgB_snoc him])
       rw [ev7] at H'; rw [show ((i * 256) + 256 : Nat) = (i + 1) * 256 from by omega] at H'; have H := H'.l9; clear H'; have sv7 := H.says 6 rfl (fun h q => q.slc)
       refine s_M 1 rfl rfl (s_end (s_region (s_do rfl rfl rfl (d_add64 rfl rfl rfl (r := (i : Int) + 1) (by omega) (by omega)) (s_M 1 rfl rfl (s_end ?_))))); replace H := H.f5.d.d.f1.f1.f6.f4.f6.f5.f6; intro _ hF; refine ⟨⟨i + 1, v7⟩, (hF.co rfl (by go_num) (hF.all rfl)), ⟨H, ?_⟩, ?_⟩
       ·dsimp only; omega
       ·(dsimp only; omega)
     ·obtain rfl : i = ims.length := by omega
      refine k_exit (k_here (k_seq ?_)); rw [List.take_length] at H; have H : Sep z (grow 5 1 v2 (ims.length * 256) ((imgB s.epoch sq ims).map u8) :: lgB pl pd pt s at_ sq us br nu :: grow 3 1 v1 ims.length (nsC ims) :: blk b2 [.int .i64 s.epoch, .int .i64 sq, v1, u32 0] 138 :: mapB m1 (seen (ims.map Img.num)) ((ims.map Img.num).length) :: tblA pt :: imA A (.slice ao ims.length ic) es :: R) w := H
      refine s_region (s_L 5 [1, 0] (mm1 (H.blk 1 rfl) mm0) rfl (by kernel_rfl) rfl (s_C rfl rfl rfl rfl rfl (fun w => Tryz.call150 _ w) (sum_c _ _ _ (imgB s.epoch sq ims) (imgB_len hallm) _ (fun h q => q.rd)) H.f5 rfl ?_)); rintro _ w _ ⟨rfl, rfl⟩ H'; have H := H'.l7; clear H'; refine s_Q 1 [3] rfl (by kernel_rfl) (s_put rfl rfl (n_store 4 H rfl rfl rfl rfl (vs := [u32 (crcSum (imgB s.epoch sq ims))]) rfl (by simp [u8, u32, Value.oneCell']) (by kernel_rfl) (by simp) (out := [.int .i64 s.epoch, .int .i64 sq, v1, u32 (crcSum (imgB s.epoch sq ims))]) rfl) ?_); rintro w H'; have H := H'.l7; clear H'; refine s_end (k_seq ?_); replace H := H.f4.f3; refine a_region (Sep z (lgB pl pd pt s at_ sq us br nu :: blk b2 [.int .i64 s.epoch, .int .i64 sq, v1, u32 (crcSum (imgB s.epoch sq ims))] 138 :: R)) 11 rfl (by kernel_rfl) (fun w' x' _ => ?_); have H' := H.ext0 x'; clear x' H; revert H'; generalize w' = w; intro H'
      have H := H'.l7; clear H'; refine a_L [0, 1, 2, 3] [1, 0] (fun _ hx => (mm1 (hx.blk 0 rfl) mm0)) (by exact (H.pick 7 [0, 1] rfl)) rfl (by kernel_rfl) rfl rfl (a_do 4 rfl (by kernel_rfl) (by kernel_rfl) (by kernel_rfl) rfl rfl rfl (d_loadAgg rfl rfl (vs := [.int .i64 s.epoch, .int .i64 sq, v1, u32 (crcSum (imgB s.epoch sq ims))]) (by kernel_rfl) (fun _ hx => (hx.blk 1 rfl).part 0 4 _ rfl)) (H.pick 7 [0, 1] rfl) (a_all [5] (by kernel_rfl) (by simp) (all1 (o_C rfl rfl rfl rfl rfl rfl (fun w => Tryz.call151 _ w) (putHead_c _ _ _ _ _ (ims.map Img.num) _ (fun h q => by rw [List.length_map, ← nsC_map]; exact q.rd)) H.f4.f3 rfl ?_)))); rintro _ w _ (⟨hbad, rfl, rfl⟩ | ⟨hgood, pw, rfl, rfl⟩) H'
      ·exact absurd ⟨by omega, by omega, by simp; omega, fun x hx => by obtain ⟨m, hm, rfl⟩ := List.mem_map.1 hx; exact (hallm m hm).1⟩ hbad
      ·have H : Sep z (blk pw (wrC (sect (hdL s.epoch sq ims)) ((26 + 4 * (ims.map Img.num).length : Nat) : Int)) 209 :: tblA pt :: grow 3 1 v1 ims.length (nsC ims) :: lgB pl pd pt s at_ sq us br nu :: blk b2 [.int .i64 s.epoch, .int .i64 sq, v1, u32 (crcSum (imgB s.epoch sq ims))] 138 :: grow 5 1 v2 (ims.length * 256) ((imgB s.epoch sq ims).map u8) :: mapB m1 (seen (ims.map Img.num)) ((ims.map Img.num).length) :: imA A (.slice ao ims.length ic) es :: R) w := H'
       clear H'; refine a_and (H.pick 8 [3, 4] rfl) (a_L [6, 7, 8, 9, 10] [] (fun _ _ => mm0) (by exact (H.pick 8 [3, 4] rfl)) rfl (by kernel_rfl) rfl rfl (a_done (by kernel_rfl) (k_seq (s_region (s_M 2 rfl rfl (s_go rfl rfl rfl (n_appendF H rfl (by kernel_rfl) (Elt.mk (P := Tryz.prog) (e := 5) (z := u8 0) (sz := 1) (by_ := 1) (by kernel_rfl) rfl (by omega) (by omega)) rfl rfl (H.rd 0 rfl (fun h q => wrC_rd (lo := 0) (n := 256) (c := 256) (ys := sect (hdL s.epoch sq ims)) q (sect_len (by rw [hdL_len]; omega)) (by omega) (by omega) (by omega) (by rw [List.drop_zero]; exact List.take_of_length_le (Nat.le_of_eq (sect_len (by rw [hdL_len]; omega)))))) (H.rd 5 rfl (fun h q => q.rd)) (by omega) (by simp [u8, Value.oneCell']) (by omega)) ?_)))))); rintro v8 w H'; have H' : Sep z (grow 5 1 v8 (256 + (ims.length * 256)) ((sect (hdL s.epoch sq ims)).map u8 ++ (imgB s.epoch sq ims).map u8) :: blk pw (wrC (sect (hdL s.epoch sq ims)) ((26 + 4 * (ims.map Img.num).length : Nat) : Int)) 209 :: tblA pt :: grow 3 1 v1 ims.length (nsC ims) :: lgB pl pd pt s at_ sq us br nu :: blk b2 [.int .i64 s.epoch, .int .i64 sq, v1, u32 (crcSum (imgB s.epoch sq ims))] 138 :: grow 5 1 v2 (ims.length * 256) ((imgB s.epoch sq ims).map u8) :: mapB m1 (seen (ims.map Img.num)) ((ims.map Img.num).length) :: imA A (.slice ao ims.length ic) es :: R) w := H'
       rw [show ((sect (hdL s.epoch sq ims)).map u8 ++ (imgB s.epoch sq ims).map u8 : List Value) = (recB s.epoch sq ims).flatten.map u8 from (by rw [← List.map_append, recB_flat])] at H'; rw [show (256 + (ims.length * 256) : Nat) = (1 + ims.length) * 256 from by omega] at H'; have H := H'.l9; clear H'; have sv8 := H.says 0 rfl (fun h q => q.slc)
       refine s_M 3 rfl rfl (s_end (k_ret (doneL rfl [v8, .int .i64 0] ⟨rfl, ⟨rfl, trivial⟩⟩ (v := .tuple #[v8, .int .i64 0]) rfl ?_))); have H' := H.mono 8 (B := A) rfl (fun h q => q.1)
       have H := H'.l9; clear H'; exact ⟨[grow 5 1 v8 ((1 + ims.length) * 256) ((recB s.epoch sq ims).flatten.map u8), lgB pl pd pt s at_ sq us br nu, tblA pt, A], .inr (.inr ⟨⟨hallm, hnd⟩, ⟨by omega, by first | assumption | simp_all, by omega⟩, v8, rfl, rfl⟩), H.perm 9 [0, 4, 2, 8] rfl rfl⟩
end Go.Proofs.YtbegkbjigbkljaaGreatDoor
namespace Go.Proofs.YtbegkbjigbkljaaGreatDoor
open Go.RowKit
theorem chunk_it (bs bn b off m cap : Nat) (hm : m * 256 ≤ cap) (hc : cap ≤ 9223372036854775807) (hm1 : m ≤ 1099511627776) : It Tryz.prog 142 [.pointer (some ⟨bs, 0, none⟩), .pointer (some ⟨bn, 0, none⟩)] [blk bs [.slice (some ⟨b, off, none⟩) (m * 256) cap] 63, blk bn [.int .i64 256] 3] (((List.range m).map fun i => Value.slice (some ⟨b, off + i * 256, none⟩) 256 256).map fun v => [v]) := by
  intro z l J hY w H'
  have H := H'.l2; clear H'
  refine it_enter (args := [.func (.yield l) #[] #[], .pointer (some ⟨bs, 0, none⟩), .pointer (some ⟨bn, 0, none⟩)]) Tryz.func142 rfl rfl 31 Tryz.ntmps142 rfl ?_
  refine rk_seq ?_
  refine rs_region ?_
  refine s_do rfl rfl rfl (d_assign rfl rfl) ?_
  refine s_end ?_
  refine rk_block ?_
  refine rc_loop (σ := Nat) (fun i => [(4, .int .i64 ((i * 256 : Nat) : Int)), (0, .func (.yield l) #[] #[]), (1, .pointer (some ⟨bs, 0, none⟩)), (2, .pointer (some ⟨bn, 0, none⟩))])
    (fun i w => Sep z (blk bs [.slice (some ⟨b, off, none⟩) (m * 256) cap] 63 :: blk bn [.int .i64 256] 3 :: J i) w ∧ (i ≤ m)) (fun i => m - i) 0
    (fun _ hF => (hF.co rfl (congrArg (Value.int .i64) (by simp)) (hF.all rfl))) ⟨H, Nat.zero_le _⟩ ?_
  clear H; rintro i w ⟨H', hI⟩
  have H := H'.l2; clear H'
  have him := hI; clear hI
  refine rk_seq ?_
  refine rk_seq ?_
  refine rs_region ?_
  refine s_do rfl rfl rfl (d_move rfl rfl) ?_
  refine s_do rfl rfl rfl (d_load rfl rfl (by kernel_rfl) (here (H.cel 0 rfl 0 rfl))) ?_
  refine s_do rfl rfl rfl (d_len rfl (z := 1) (by kernel_rfl) rfl) ?_
  refine s_do rfl rfl rfl (d_lss rfl rfl rfl) ?_
  refine s_end ?_
  refine rk_dec rfl (fun h1 => ?_) (fun h1 => ?_)
  · -- yes: ((i * 256 : Nat) : Int) < ((m * 256 : Nat) : Int)
    have hlt : i < m := by omega
    refine rk_skip ?_
    refine rk_seq ?_
    refine rk_block ?_
    refine rk_seq ?_
    refine rq_region (Sep z _) (by kernel_rfl) (by kernel_rfl) H.drew ?_
    refine q_do rfl rfl rfl (d_load rfl rfl (by kernel_rfl) (fun _ hx => hx.cel 1 rfl 0 rfl)) ?_
    refine q_do rfl rfl rfl (d_load rfl rfl (by kernel_rfl) (fun _ hx => hx.cel 0 rfl 0 rfl)) ?_
    refine q_do rfl rfl rfl (d_move rfl rfl) ?_
    refine q_do rfl rfl rfl (d_sliceC rfl (z := 1) (p := (i * 256)) (q := m * 256) (o' := off + i * 256) (l' := (m * 256 - i * 256)) (c' := (cap - i * 256)) (by kernel_rfl) rfl (.inr ⟨_, _, _, rfl, rfl, (by omega)⟩) (.inl ⟨rfl, rfl⟩) (by omega) (by omega) (by omega) (by omega) (by omega) (by omega)) ?_
    refine q_do rfl rfl rfl (d_len rfl (z := 1) (by kernel_rfl) rfl) ?_
    refine q_do rfl rfl rfl (d_min rfl rfl rfl) ?_
    refine k_updA 18 (u := .int .i64 (min (256 : Int) ((m * 256 - i * 256 : Nat) : Int))) (v := .int .i64 256) rfl (congrArg (Value.int .i64) (by omega)) ?_
    refine q_do rfl rfl rfl (d_assign rfl rfl) ?_
    refine q_end (fun w H' => ?_)
    have H := H'.l2; clear H'
    refine rk_seq ?_
    refine i_region ?_
    refine i_do rfl rfl rfl (d_move rfl rfl) ?_
    refine i_do rfl rfl rfl (d_load rfl rfl (by kernel_rfl) (here (H.cel 0 rfl 0 rfl))) ?_
    refine i_do rfl rfl rfl (d_move rfl rfl) ?_
    refine i_do rfl rfl rfl (d_move rfl rfl) ?_
    refine i_do rfl rfl rfl (d_move rfl rfl) ?_
    refine i_do rfl rfl rfl (d_add64 rfl rfl rfl (r := (((i + 1) * 256 : Nat) : Int)) (by omega) (by omega)) ?_
    refine i_do rfl rfl rfl (d_move rfl rfl) ?_
    refine i_do rfl rfl rfl (d_move rfl rfl) ?_
    refine i_do rfl rfl rfl (d_add64 rfl rfl rfl (r := (((i + 1) * 256 : Nat) : Int)) (by omega) (by omega)) ?_
    refine i_do rfl rfl rfl (d_slice3 rfl (sz := 1) (p := (i * 256)) (q := ((i + 1) * 256)) (o' := off + i * 256) (l' := 256) (by kernel_rfl) rfl rfl rfl rfl (by omega) (by omega) (by omega) (by omega) (by omega) (by omega) (by omega)) ?_
    refine i_yield rfl rfl rfl rfl rfl rfl (hY i _ (by simp [List.getElem?_range hlt]) _ H) ?_
    rintro _ w ⟨rfl, H'⟩
    refine ⟨_, rfl, ?_⟩
    have H := H'.l2; clear H'
    refine i_do rfl rfl rfl (d_not rfl rfl) ?_
    refine i_end ?_
    refine rk_false rfl ?_
    refine rk_skip ?_
    refine rs_region ?_
    refine s_do rfl rfl rfl (d_move rfl rfl) ?_
    refine s_do rfl rfl rfl (d_load rfl rfl (by kernel_rfl) (here (H.cel 1 rfl 0 rfl))) ?_
    refine s_do rfl rfl rfl (d_add64 rfl rfl rfl (r := (((i + 1) * 256 : Nat) : Int)) (by omega) (by omega)) ?_
    refine s_do rfl rfl rfl (d_assign rfl rfl) ?_
    refine s_end ?_
    intro _ hF
    refine ⟨(i + 1), (hF.all rfl), ⟨H, ?_⟩, ?_⟩
    · omega
    · omega
  · -- no: ((i * 256 : Nat) : Int) < ((m * 256 : Nat) : Int)
    refine rk_exit ?_
    refine k_here ?_
    obtain rfl : i = m := by omega
    exact fun _ hF => ⟨hF.defers, by simpa using H⟩
theorem chunk_c (b off n c : Nat) : Cn Tryz.prog 108 [.slice (some ⟨b, off, none⟩) n c, .int .i64 256] [] (fun v Γ => (∃ bs bn, v = .func (.func 142) #[] #[.pointer (some ⟨bs, 0, none⟩), .pointer (some ⟨bn, 0, none⟩)] ∧ Γ = [blk bs [.slice (some ⟨b, off, none⟩) n c] 63, blk bn [.int .i64 256] 3])) := by
 intro z R w H'; have H : Sep z (R) w := H'
 clear H'; refine enter Tryz.func108 rfl 9 Tryz.ntmps108 rfl (k_seq (s_region (s_go rfl rfl rfl (n_box H rfl rfl (cs := [.slice (some ⟨b, off, none⟩) n c]) rfl) ?_))); rintro _ w ⟨b1, rfl, H'⟩; have H := H'.l1; clear H'; refine s_go rfl rfl rfl (n_box H rfl rfl (cs := [.int .i64 256]) rfl) ?_; rintro _ w ⟨b2, rfl, H'⟩; have H := H'.l2; clear H'; refine s_M 1 rfl rfl (s_end (k_seq (k_seq (s_region (s_L 2 [0] (mm1 (H.blk 0 rfl) mm0) rfl (by kernel_rfl) rfl (k_updA 6 (u := .bool (decide ((256 : Int) < 1))) (v := .bool false) rfl (congrArg Value.bool (by decide)) (s_end (k_false rfl (k_skip (k_seq (s_region (s_do rfl rfl rfl (d_makeFunc rfl rfl rfl) (s_M 1 rfl rfl ?_))))))))))))); refine s_end (k_ret (doneL rfl [.func (.func 142) #[] #[.pointer (some ⟨b1, 0, none⟩), .pointer (some ⟨b2, 0, none⟩)]] ⟨rfl, trivial⟩ (v := .func (.func 142) #[] #[.pointer (some ⟨b1, 0, none⟩), .pointer (some ⟨b2, 0, none⟩)]) rfl ?_)); exact ⟨[blk b1 [.slice (some ⟨b, off, none⟩) n c] 63, blk b2 [.int .i64 256] 3], ⟨b1, b2, rfl, rfl⟩, H.perm 2 [1, 0] rfl rfl⟩
end Go.Proofs.YtbegkbjigbkljaaGreatDoor
namespace Go.Proofs.YtbegkbjigbkljaaGreatDoor
open Go.RowKit
set_option maxHeartbeats 1000000 in
theorem write_c (pd b off c : Nat) (D : Dsk) (x : Int) (fua : Bool) (ps : List (List UInt8)) (A : Asn) (hps : ∀ p ∈ ps, p.length = 256) (hm : 1 ≤ ps.length ∧ ps.length ≤ 4096) (hver : ∀ i, (D.ver i).length ≤ 1099511627776) (hA : ∀ h, A h → rdH 1 (.slice (some ⟨b, off, none⟩) (ps.length * 256) c) (ps.length * 256) (ps.flatten.map u8) h) : Cn Tryz.prog 69 [.pointer (some ⟨pd, 0, none⟩), .int .i64 x, .slice (some ⟨b, off, none⟩) (ps.length * 256) c, .bool fua] [diskA pd D, A] (fun v Γ => (¬ (0 ≤ x ∧ x + ps.length ≤ (D.n : Int)) ∧ v = .int .i64 2 ∧ Γ = [diskA pd D, A]) ∨ ((0 ≤ x ∧ x + ps.length ≤ (D.n : Int)) ∧ (D.f2 = 1 ∨ (D.cut = true ∧ D.left = 0)) ∧ v = .int .i64 11 ∧ Γ = [diskA pd { D with f2 := tick D.f2 }, A]) ∨ ((0 ≤ x ∧ x + ps.length ≤ (D.n : Int)) ∧ (¬ D.f2 = 1 ∧ ¬ (D.cut = true ∧ D.left = 0)) ∧ v = .int .i64 0 ∧ Γ = [diskA pd { Dsk.ws { D with f2 := tick D.f2 } fua x.toNat ps with left := max 0 (D.left - 1) }, A])) := by
 intro z R w H'; have H : Sep z (diskA pd D :: A :: R) w := H'
 clear H'; obtain ⟨bd, m, f0, bs, es, clk, hq, hD, hIn, H'⟩ := H.disk; clear H; have hn1 := hD.n1; have hn2 := hD.n2; have hf1 := hD.f1; have hf2 := hD.f2; have hf3 := hD.f3; have hlf := hD.left; have hbl := hIn.len
 have H := H'.l6; clear H'; refine enterM Tryz.func69 rfl 73 Tryz.ntmps69 rfl (k_seq (s_region (s_go rfl rfl rfl (n_box H rfl rfl (cs := [.pointer (some ⟨pd, 0, none⟩)]) rfl) ?_))); rintro _ w ⟨b1, rfl, H'⟩; have H := H'.l7; clear H'; refine s_go rfl rfl rfl (n_box H rfl rfl (cs := [.int .i64 x]) rfl) ?_; rintro _ w ⟨b2, rfl, H'⟩; have H := H'.l8; clear H'; refine s_go rfl rfl rfl (n_box H rfl rfl (cs := [.bool fua]) rfl) ?_; rintro _ w ⟨b3, rfl, H'⟩; have H := H'.l9; clear H'; refine s_M 1 rfl rfl (s_end (k_seq (k_block (k_seq (s_region (s_M 1 rfl rfl (s_do rfl rfl rfl (d_len rfl (z := 1) (by kernel_rfl) rfl) (s_M 2 rfl rfl (s_part 14 rfl (fun h1 => ?_) (fun h1 => ?_))))))))))
 ·omega
 ·refine s_M 1 rfl rfl (s_do rfl rfl rfl (d_len rfl (z := 1) (by kernel_rfl) rfl) (s_do rfl rfl rfl (d_rem64 rfl rfl rfl (r := ((ps.length * 256 : Nat) : Int) % 256) (by omega) (by omega) (by omega)) (s_M 3 rfl rfl (s_end (k_dec rfl (fun h2 => ?_) (fun h2 => ?_))))))
  ·omega
  ·refine k_seq (s_region (s_L 3 [0, 1] (mm1 (H.blk 2 rfl) (mm1 (H.blk 1 rfl) mm0)) rfl (by kernel_rfl) rfl (s_do rfl rfl rfl (d_len rfl (z := 1) (by kernel_rfl) rfl) (s_do rfl rfl rfl (d_quo64 rfl rfl rfl (r := (ps.length : Int)) (by omega) (by omega) (by omega) (by omega)) (s_C rfl rfl rfl rfl rfl (fun w => Tryz.call95 _ w) (there_c _ _ _ _ _ _ _ _ _ _ _ _ (by omega)) H.f3 rfl ?_))))); rintro _ w _ ⟨rfl, rfl⟩ H'; have H := H'.l9; clear H'; refine s_do rfl rfl rfl (d_not_dec rfl rfl) (s_M 1 rfl rfl (s_end (k_dec rfl (fun h3 => ?_) (fun h3 => ?_))))
   ·refine k_seq (s_region (s_M 1 rfl rfl (s_end (k_ret (doneM0 rfl [.int .i64 2] ⟨rfl, trivial⟩ (v := .int .i64 2) rfl ?_))))); replace H := H.f7.f7.f7.f7.f4; have H' := Sep.toDisk (D := D) (pd := pd) (bd := bd) (m := m) (f0 := f0) (bs := bs) (es := es) (clk := clk) (hq := hq) (Γ := blk b3 [.bool fua] 4 :: blk b2 [.int .i64 x] 3 :: blk b1 [.pointer (some ⟨pd, 0, none⟩)] 23 :: A :: R) H hD hIn
    have H := H'.l5; clear H'; exact ⟨[diskA pd D, A], .inl ⟨by omega, rfl, rfl⟩, H.perm 5 [0, 4] rfl rfl⟩
   ·obtain ⟨k, rfl⟩ : ∃ k : Nat, x = (k : Int) := ⟨x.toNat, by omega⟩; have hk : k + ps.length ≤ D.n := by omega
    refine k_seq (k_seq (s_region (s_L 1 [0] (mm1 (H.blk 3 rfl) mm0) rfl (by kernel_rfl) rfl (s_C rfl rfl rfl rfl rfl (fun w => Tryz.call96 _ w) (fails2_c _ _ _ _ _ _ _ _ _ _ (by omega)) H rfl ?_)))); rintro _ w _ ⟨rfl, rfl⟩ H'; have H := H'.l9; clear H'; refine s_M 1 rfl rfl (s_end (k_dec rfl (fun h4 => ?_) (fun h4 => ?_)))
    ·refine k_skip (k_dec rfl (fun h5 => ?_) (fun h5 => ?_))
     ·refine k_seq (s_region (s_M 1 rfl rfl (s_end (k_ret (doneM0 rfl [.int .i64 11] ⟨rfl, trivial⟩ (v := .int .i64 11) rfl ?_))))); replace H := H.f7.f7.f7.f7.f4; have H' := Sep.toDisk (D := { D with f2 := tick D.f2 }) (pd := pd) (bd := bd) (m := m) (f0 := f0) (bs := bs) (es := es) (clk := clk) (hq := hq) (Γ := blk b3 [.bool fua] 4 :: blk b2 [.int .i64 (k : Int)] 3 :: blk b1 [.pointer (some ⟨pd, 0, none⟩)] 23 :: A :: R) H (hD.f hD.f1 (tick_in hD.f2) hD.f3 hD.left) (hIn.f _ _ _ _ _)
      have H := H'.l5; clear H'; exact ⟨[diskA pd { D with f2 := tick D.f2 }, A], .inr (.inl ⟨by omega, by simp_all, rfl, rfl⟩), H.perm 5 [0, 4] rfl rfl⟩
     ·exact absurd h4 h5
    ·refine s_region (s_L 1 [0] (mm1 (H.blk 3 rfl) mm0) rfl (by kernel_rfl) rfl (s_C rfl rfl rfl rfl rfl (fun w => Tryz.call102 _ w) (down_c _ _ _ _ _ _ _ _ _ _) H rfl ?_)); rintro _ w _ ⟨rfl, rfl⟩ H'; have H := H'.l9; clear H'; refine s_M 1 rfl rfl (s_end (k_cond rfl (fun h6 => ?_) (fun h6 => ?_)))
     ·refine k_seq (s_region (s_M 1 rfl rfl (s_end (k_ret (doneM0 rfl [.int .i64 11] ⟨rfl, trivial⟩ (v := .int .i64 11) rfl ?_))))); replace H := H.f7.f7.f7.f7.f4; have H' := Sep.toDisk (D := { D with f2 := tick D.f2 }) (pd := pd) (bd := bd) (m := m) (f0 := f0) (bs := bs) (es := es) (clk := clk) (hq := hq) (Γ := blk b3 [.bool fua] 4 :: blk b2 [.int .i64 (k : Int)] 3 :: blk b1 [.pointer (some ⟨pd, 0, none⟩)] 23 :: A :: R) H (hD.f hD.f1 (tick_in hD.f2) hD.f3 hD.left) (hIn.f _ _ _ _ _)
      have H := H'.l5; clear H'; exact ⟨[diskA pd { D with f2 := tick D.f2 }, A], .inr (.inl ⟨by omega, by simp_all, rfl, rfl⟩), H.perm 5 [0, 4] rfl rfl⟩
     ·refine k_skip (k_seq (k_seq (s_region (s_M 1 rfl rfl (s_C rfl rfl rfl rfl rfl (fun w => Tryz.call97 _ w) (clone_c _ _ (ps.length * 256) _ ps.flatten _ (hA) (by omega)) H.f8 rfl ?_))))); rintro _ w _ ⟨g, cap, rest, rfl, ⟨cg, cc, cl⟩, rfl⟩ H'; have H := H'.l10; clear H'; refine s_C rfl rfl rfl rfl rfl (fun w => Tryz.call108 _ w) (chunk_c _ _ _ _) H rfl ?_; rintro _ w _ ⟨bs_, bn_, rfl, rfl⟩ H'; have H := H'.l12; clear H'; refine s_end (k_block ?_); replace H := H.f2.f10; obtain ⟨hq2, ⟨hs2, hg2⟩, H'⟩ := pool_add H; clear H; have H := H'.l11; clear H'; replace H := H.f10.f1.f10.f10.f7; have H' := Sep.toDiskQ (D := { D with f2 := tick D.f2 }) (pd := pd) (bd := bd) (m := m) (f0 := f0) (bs := bs) (es := es) (clk := clk) (hq := hq2) (Γ := blk bs_ [.slice (some ⟨g, 0, none⟩) (ps.length * 256) cap] 63 :: blk bn_ [.int .i64 256] 3 :: A :: blk b3 [.bool fua] 4 :: blk b2 [.int .i64 (k : Int)] 3 :: blk b1 [.pointer (some ⟨pd, 0, none⟩)] 23 :: R) H (hD.f hD.f1 (tick_in hD.f2) hD.f3 hD.left) ((hIn.f _ _ _ _ _).le hs2)
      have H := H'.l7; clear H'; replace H := H.f3.f1.f4.f5.f6.f6.f6; have H' : Sep z ((blk b1 [.pointer (some ⟨pd, 0, none⟩)] 23 :: blk b2 [.int .i64 ((k + 0 : Nat) : Int)] 3 :: blk b3 [.bool fua] 4 :: diskQ pd (Dsk.ws { D with f2 := tick D.f2 } fua k (ps.take 0)) hq2 :: A :: R) ++ [blk bs_ [.slice (some ⟨g, 0, none⟩) (ps.length * 256) cap] 63, blk bn_ [.int .i64 256] 3]) w := Sep.swap (As := [blk bs_ [.slice (some ⟨g, 0, none⟩) (ps.length * 256) cap] 63, blk bn_ [.int .i64 256] 3]) (Bs := blk b1 [.pointer (some ⟨pd, 0, none⟩)] 23 :: blk b2 [.int .i64 ((k + 0 : Nat) : Int)] 3 :: blk b3 [.bool fua] 4 :: diskQ pd (Dsk.ws { D with f2 := tick D.f2 } fua k (ps.take 0)) hq2 :: A :: R) (by simpa [Dsk.ws] using H)
      clear H; have hwsn := fun i => Dsk.ws_n fua (ps.take i) { D with f2 := tick D.f2 } k
      have hwsf := fun i => Dsk.ws_f fua (ps.take i) { D with f2 := tick D.f2 } k
      refine k_range (fun i => blk b1 [.pointer (some ⟨pd, 0, none⟩)] 23 :: blk b2 [.int .i64 ((k + i : Nat) : Int)] 3 :: blk b3 [.bool fua] 4 :: diskQ pd (Dsk.ws { D with f2 := tick D.f2 } fua k (ps.take i)) hq2 :: A :: R) rfl (fun u w => Tryz.call142 u w) rfl (chunk_it bs_ bn_ g 0 ps.length cap (by omega) (by omega) (by omega)) H' ?_ ?_
      ·rintro ro i v hv w; obtain ⟨hi, rfl⟩ : i < ps.length ∧ v = .slice (some ⟨g, 0 + i * 256, none⟩) 256 256 := by
         have hl := (List.getElem?_eq_some_iff.1 hv).1; simp at hl
         rw [List.getElem?_map, List.getElem?_range hl] at hv; simp at hv; exact ⟨hl, by rw [← hv, Nat.zero_add]⟩
       obtain ⟨p, hp⟩ : ∃ p, ps[i]? = some p := ⟨_, List.getElem?_eq_getElem hi⟩; have hp256 := hps p (List.mem_of_getElem? hp)
       have hrd := piece_rd hg2 hps hp
       refine rs_region (s_M 1 rfl rfl (s_end ?_)); refine fun a hF => ⟨rfl, fun F w H' => ?_⟩
       revert a hF; have H := H'.l5; clear H'; have H' := H.pick 4 [3, 0, 1, 2] rfl
       have H : Sep z (diskQ pd (Dsk.ws { D with f2 := tick D.f2 } fua k (ps.take i)) hq2 :: blk b1 [.pointer (some ⟨pd, 0, none⟩)] 23 :: blk b2 [.int .i64 ((k + i : Nat) : Int)] 3 :: blk b3 [.bool fua] 4 :: A :: (R ++ ([blk bs_ [.slice (some ⟨g, 0, none⟩) (ps.length * 256) cap] 63, blk bn_ [.int .i64 256] 3] ++ F))) w := H'
       clear H'; obtain ⟨bd, m, f0, bs, es, clk, hD2, hIn2, H'⟩ := H.diskQ; clear H; have H := H'.l9; clear H'; have hnn := hwsn i; have hki : k + i < (Dsk.ws { D with f2 := tick D.f2 } fua k (ps.take i)).n := by rw [hnn]; show k + i < D.n; omega
       have hnD : (Dsk.ws { D with f2 := tick D.f2 } fua k (ps.take i)).n = D.n := hnn
       refine rk_block (rk_seq (rk_seq (rs_region (s_L 1 [0] (mm1 (H.blk 7 rfl) mm0) rfl (by kernel_rfl) rfl (s_end (rk_cond rfl (fun h7 => ?_) (fun h7 => ?_)))))))
       ·subst h7; refine rk_seq (rs_region (s_L 2 [0, 1] (mm1 (H.blk 5 rfl) (mm1 (H.blk 6 rfl) mm0)) rfl (by kernel_rfl) rfl (s_C rfl rfl rfl rfl rfl (fun w => Tryz.call62 _ w) (own_c _ _ _ _ _ _ _ _ _ _ (k + i) (by omega) (by omega)) H rfl ?_))); rintro _ w _ ⟨rfl, rfl⟩ H'; have H := H'.l9; clear H'; refine s_M 1 rfl rfl (s_go rfl rfl rfl (n_copy 1 H rfl rfl (by kernel_rfl) rfl rfl (m := 256) (news := (p.map u8)) (.inl (H.rd 3 rfl (fun h q => hrd.le q))) (by simp [u8, Value.oneCell']) (by have := hIn2.len; simp; omega) (k := 256) (by omega) (out := ((bs.take ((k + i) * 256) ++ p ++ bs.drop ((k + i) * 256 + 256)).map u8)) (by simp [hp256, List.take_of_length_le])) ?_); rintro _ w ⟨rfl, H'⟩; have H := H'.l9; clear H'; refine s_end (rl_region (Sep z (blk pd [.slice (some ⟨bd, 0, none⟩) ((Dsk.ws { D with f2 := tick D.f2 } true k (ps.take i)).n * 256) ((Dsk.ws { D with f2 := tick D.f2 } true k (ps.take i)).n * 256), .map (some m), .int .i64 f0, .int .i64 ((Dsk.ws { D with f2 := tick D.f2 } true k (ps.take i)).f1), .int .i64 ((Dsk.ws { D with f2 := tick D.f2 } true k (ps.take i)).f2), .int .i64 ((Dsk.ws { D with f2 := tick D.f2 } true k (ps.take i)).f3), .bool ((Dsk.ws { D with f2 := tick D.f2 } true k (ps.take i)).cut), .int .i64 ((Dsk.ws { D with f2 := tick D.f2 } true k (ps.take i)).left)] 120 :: blk bd ((bs.take ((k + i) * 256) ++ p ++ bs.drop ((k + i) * 256 + 256)).map u8) 5 :: mapB m (es.map Ent.ie) clk :: poolA hq2 :: seps (es.map Ent.row) :: blk b1 [.pointer (some ⟨pd, 0, none⟩)] 23 :: blk b2 [.int .i64 ((k + i : Nat) : Int)] 3 :: blk b3 [.bool true] 4 :: A :: (R ++ ([blk bs_ [.slice (some ⟨g, 0, none⟩) (ps.length * 256) cap] 63, blk bn_ [.int .i64 256] 3] ++ F)))) 6 rfl (by kernel_rfl) (fun w' x' _ => ?_))
        have H' := H.ext0 x'; clear x' H; revert H'; generalize w' = w; intro H'
        have H := H'.l9; clear H'; refine l_L [0, 1, 2, 3, 4] [0, 1, 1, 2] (by kernel_rfl) (fun _ hx => (mm1 (hx.blk 5 rfl) (mm1 (hx.blk 0 rfl) (mm1 (hx.blk 6 rfl) mm0)))) (by exact (H.pick 9 [0, 1, 2, 3, 4, 5, 6, 7, 8] rfl)) rfl (by kernel_rfl) rfl rfl (l_all [5] (by kernel_rfl) (by simp) (all1 (o_go0 rfl rfl rfl (n_delete 2 (e := 82) H rfl rfl (by kernel_rfl) rfl rfl) ?_))); rintro _ w ⟨rfl, H'⟩; have H := H'.l9; clear H'; refine l_and (fun h => absurd rfl h) (l_done (by kernel_rfl) ?_); obtain ⟨es2, hIn3, hpe, hrow⟩ := del_split hIn2 hki hp256 (bs' := (bs.take ((k + i) * 256) ++ p ++ bs.drop ((k + i) * 256 + 256))) rfl; replace H := H.f4; have H' := H.mono 0 rfl hrow
        rw [hpe] at H'; have H := H'.l9; clear H'; replace H := H.f4.f4.f4.f4; have e3 : Dsk.ws { D with f2 := tick D.f2 } true k (ps.take (i + 1)) = (Dsk.ws { D with f2 := tick D.f2 } true k (ps.take i)).w1 true (k + i) p := by rw [Dsk.ws_take hp]
        have H' := Sep.toDiskQ (D := (Dsk.ws { D with f2 := tick D.f2 } true k (ps.take i)).w1 true (k + i) p) (pd := pd) (bd := bd) (m := m) (f0 := f0) (bs := (bs.take ((k + i) * 256) ++ p ++ bs.drop ((k + i) * 256 + 256))) (es := es2) (clk := clk) (hq := hq2) (Γ := blk b1 [.pointer (some ⟨pd, 0, none⟩)] 23 :: blk b2 [.int .i64 ((k + i : Nat) : Int)] 3 :: blk b3 [.bool true] 4 :: A :: (R ++ ([blk bs_ [.slice (some ⟨g, 0, none⟩) (ps.length * 256) cap] 63, blk bn_ [.int .i64 256] 3] ++ F))) H (hD2.w1 hp256) hIn3
        rw [← e3] at H'; have H := H'.l5; clear H'; refine rs_region (s_L 1 [0] (mm1 (H.blk 2 rfl) mm0) rfl (by kernel_rfl) rfl (s_do rfl rfl rfl (d_add64 rfl rfl rfl (r := ((k + (i + 1) : Nat) : Int)) (by omega) (by omega)) (s_put rfl rfl (n_store 2 H rfl rfl rfl rfl (vs := [.int .i64 ((k + (i + 1) : Nat) : Int)]) rfl (by simp [u8, u32, Value.oneCell']) (by kernel_rfl) (by simp) (out := [.int .i64 ((k + (i + 1) : Nat) : Int)]) rfl) ?_))); rintro w H'; have H := H'.l5; clear H'; refine s_end ?_; replace H := H.f4.f1.f4.f4.f4; exact fun _ _ => H
       ·subst h7; replace H := H.f4; obtain ⟨v0, pvs, Rest, hgv, hpl, H', hcl⟩ := row_split hIn2 hki H; clear H; have H := H'.l10; clear H'; have sv0 := H.says 0 rfl (fun h q => q.slc)
        have hpl2 : pvs.length ≤ 1099511627776 := by rw [hpl, Dsk.ws_ver _ _ _ _ _ (.inr (by rw [List.length_take]; omega))]; exact hver _
        refine rl_region (Sep z (emp :: seps Rest :: blk pd [.slice (some ⟨bd, 0, none⟩) ((Dsk.ws { D with f2 := tick D.f2 } false k (ps.take i)).n * 256) ((Dsk.ws { D with f2 := tick D.f2 } false k (ps.take i)).n * 256), .map (some m), .int .i64 f0, .int .i64 ((Dsk.ws { D with f2 := tick D.f2 } false k (ps.take i)).f1), .int .i64 ((Dsk.ws { D with f2 := tick D.f2 } false k (ps.take i)).f2), .int .i64 ((Dsk.ws { D with f2 := tick D.f2 } false k (ps.take i)).f3), .bool ((Dsk.ws { D with f2 := tick D.f2 } false k (ps.take i)).cut), .int .i64 ((Dsk.ws { D with f2 := tick D.f2 } false k (ps.take i)).left)] 120 :: blk bd (bs.map u8) 5 :: mapB m (es.map Ent.ie) clk :: poolA hq2 :: blk b1 [.pointer (some ⟨pd, 0, none⟩)] 23 :: blk b2 [.int .i64 ((k + i : Nat) : Int)] 3 :: blk b3 [.bool false] 4 :: A :: (R ++ ([blk bs_ [.slice (some ⟨g, 0, none⟩) (ps.length * 256) cap] 63, blk bn_ [.int .i64 256] 3] ++ F)))) 15 rfl (by kernel_rfl) (fun w' x' _ => ?_); have H' := H.ext0 x'; clear x' H; revert H'; generalize w' = w; intro H'
        have H := H'.l10; clear H'; refine l_L [0, 1, 2, 3, 4, 5, 6, 7, 8, 9] [0, 1, 1, 2, 0, 1, 1, 2] (by kernel_rfl) (fun _ hx => (mm1 (hx.blk 6 rfl) (mm1 (hx.blk 2 rfl) (mm1 (hx.blk 7 rfl) mm0)))) (by exact (Sep.mono 0 (B := emp) (H.pick 10 [0, 1, 2, 3, 4, 5, 6, 7, 8, 9] rfl) rfl (fun _ _ => trivial))) rfl (by kernel_rfl) rfl rfl (l_do 10 (by kernel_rfl) rfl rfl (by kernel_rfl) (by kernel_rfl) (by kernel_rfl) rfl rfl rfl (d_lookup (e := 82) (zv := .slice none 0 0) rfl (by kernel_rfl) (by kernel_rfl) rfl rfl (fun _ hx => hx.bk 4 rfl)) (Sep.mono 0 (B := emp) (H.pick 10 [0, 1, 2, 3, 4, 5, 6, 7, 8, 9] rfl) rfl (fun _ _ => trivial)) (k_updA 58 (u := (getM (es.map Ent.ie) ((k + i : Nat) : Int)).getD (.slice none 0 0)) (v := v0) rfl hgv (l_L [11] [] (by kernel_rfl) (fun _ _ => mm0) (by exact (Sep.mono 0 (B := emp) (H.pick 10 [0, 1, 2, 3, 4, 5, 6, 7, 8, 9] rfl) rfl (fun _ _ => trivial))) rfl (by kernel_rfl) rfl rfl (l_all [12] (by kernel_rfl) (by simp) (all1 (o_go rfl rfl rfl rfl (n_buildSlice H rfl (by kernel_rfl) (Elt.mk (P := Tryz.prog) (e := 63) (z := .slice none 0 0) (sz := 1) (by_ := 24) (by kernel_rfl) rfl (by omega) (by omega)) rfl (by decide) (by decide) (out := [.slice (some ⟨g, (0 + i * 256), none⟩) 256 256]) (by kernel_rfl)) ?_)))))); rintro _ w ⟨b4, rfl, H'⟩; have H := H'.l11; clear H'; refine l_and (fun _ => (Sep.mono 0 (B := emp) (H.pick 11 [1, 2, 3, 4, 5, 6, 7, 8, 9, 10] rfl) rfl (fun _ _ => trivial))) (l_all [13] (by kernel_rfl) (by simp) (all1 (o_go rfl rfl rfl rfl (n_append 1 H rfl rfl (by kernel_rfl) (Elt.mk (P := Tryz.prog) (e := 63) (z := .slice none 0 0) (sz := 1) (by_ := 24) (by kernel_rfl) rfl (by omega) (by omega)) rfl rfl (H.rd 0 rfl (fun h q => q.rd (by omega) (by omega) (by simp) rfl)) (by simp [Value.oneCell']) (by omega)) ?_)))
        rintro v5 w H'; have H := H'.l11; clear H'; have sv5 := H.says 1 rfl (fun h q => q.slc)
        refine l_and (fun _ => (Sep.mono 0 (B := emp) (H.pick 11 [1, 2, 3, 4, 5, 6, 7, 8, 9, 10] rfl) rfl (fun _ _ => trivial))) (l_all [14] (by kernel_rfl) (by simp) (all1 (o_put rfl rfl rfl (n_mapUpdate 5 (e := 82) H rfl rfl (by kernel_rfl) rfl rfl rfl) ?_))); rintro w H'; have H := H'.l11; clear H'; refine l_and (fun h => absurd rfl h) (l_done (by kernel_rfl) ?_); replace H := H.f2.f2; obtain ⟨es2, hIn3, hpe, hrow⟩ := hcl v5 _ p hp256 hrd; have H' := Sep.made 2 H hrow
        rw [hpe] at H'; have H := H'.l10; clear H'; replace H := H.f5.f5.f5.f5; have e3 : Dsk.ws { D with f2 := tick D.f2 } false k (ps.take (i + 1)) = (Dsk.ws { D with f2 := tick D.f2 } false k (ps.take i)).w1 false (k + i) p := by rw [Dsk.ws_take hp]
        have H' := Sep.toDiskQ (D := (Dsk.ws { D with f2 := tick D.f2 } false k (ps.take i)).w1 false (k + i) p) (pd := pd) (bd := bd) (m := m) (f0 := f0) (bs := bs) (es := es2) (clk := putC (es.map Ent.ie) ((k + i : Nat) : Int) clk) (hq := hq2) (Γ := blk b4 [.slice (some ⟨g, (0 + i * 256), none⟩) 256 256] 63 :: blk b1 [.pointer (some ⟨pd, 0, none⟩)] 23 :: blk b2 [.int .i64 ((k + i : Nat) : Int)] 3 :: blk b3 [.bool false] 4 :: A :: (R ++ ([blk bs_ [.slice (some ⟨g, 0, none⟩) (ps.length * 256) cap] 63, blk bn_ [.int .i64 256] 3] ++ F))) H (hD2.w1 hp256) hIn3
        rw [← e3] at H'; have H := H'.l6; clear H'; refine rs_region (s_L 1 [0] (mm1 (H.blk 3 rfl) mm0) rfl (by kernel_rfl) rfl (s_do rfl rfl rfl (d_add64 rfl rfl rfl (r := ((k + (i + 1) : Nat) : Int)) (by omega) (by omega)) (s_put rfl rfl (n_store 3 H rfl rfl rfl rfl (vs := [.int .i64 ((k + (i + 1) : Nat) : Int)]) rfl (by simp [u8, u32, Value.oneCell']) (by kernel_rfl) (by simp) (out := [.int .i64 ((k + (i + 1) : Nat) : Int)]) rfl) ?_))); rintro w H'; have H := H'.l6; clear H'; refine s_end ?_; replace H := H.f1.d.f4.f1.f4.f4.f4; exact fun _ _ => H
      ·rintro D0 w H'; rw [List.length_map, List.length_range] at H'; have H := H'.l6; clear H'; obtain ⟨bd, m, f0, bs, es, clk, hD2, hIn2, H'⟩ := (H.pick 6 [4, 0, 1, 2, 3, 5] rfl).diskQ; clear H; have H := H'.l10; clear H'; have hlf2 := hD2.left
       refine k_seq (t_region 9 (by kernel_rfl) (by kernel_rfl) (fun w' x' _ => ?_)); have H' := H.ext0 x'; clear x' H; revert H'; generalize w' = w; intro H'
       have H := H'.l10; clear H'; refine t_L 5 [0, 0, 7, 1] (mm1 (H.blk 6 rfl) (mm1 (H.blk 0 rfl) mm0)) rfl (by kernel_rfl) rfl (t_do rfl rfl rfl (d_sub64 rfl rfl rfl (r := ((Dsk.ws { D with f2 := tick D.f2 } fua k (ps.take ps.length)).left) - 1) (by omega) (by omega)) (t_do rfl rfl rfl (d_max rfl rfl rfl) (t_M 2 [7] rfl (by kernel_rfl) (t_end (s_put rfl rfl (n_store 0 H rfl rfl rfl rfl (vs := [.int .i64 (max (0 : Int) (((Dsk.ws { D with f2 := tick D.f2 } fua k (ps.take ps.length)).left) - 1))]) rfl (by simp [u8, u32, Value.oneCell']) (by kernel_rfl) (by simp) (out := [.slice (some ⟨bd, 0, none⟩) ((Dsk.ws { D with f2 := tick D.f2 } fua k (ps.take ps.length)).n * 256) ((Dsk.ws { D with f2 := tick D.f2 } fua k (ps.take ps.length)).n * 256), .map (some m), .int .i64 f0, .int .i64 ((Dsk.ws { D with f2 := tick D.f2 } fua k (ps.take ps.length)).f1), .int .i64 ((Dsk.ws { D with f2 := tick D.f2 } fua k (ps.take ps.length)).f2), .int .i64 ((Dsk.ws { D with f2 := tick D.f2 } fua k (ps.take ps.length)).f3), .bool ((Dsk.ws { D with f2 := tick D.f2 } fua k (ps.take ps.length)).cut), .int .i64 (max (0 : Int) (((Dsk.ws { D with f2 := tick D.f2 } fua k (ps.take ps.length)).left) - 1))]) rfl) ?_))))); rintro w H'; have H := H'.l10; clear H'; refine s_end (k_seq (s_region (s_M 1 rfl rfl (s_end (k_ret ?_))))); replace H := H.f5; refine doneM1 H (rs := [.tmp 8]) rfl [.int .i64 0] (fun _ => ⟨rfl, trivial⟩) (v := .int .i64 0) rfl (fun w H' => ?_); clear H; have H := H'.l9; clear H'; have hlw := (hwsf ps.length).2.2.2.2
       have H' := Sep.toDisk (D := { Dsk.ws { D with f2 := tick D.f2 } fua k (ps.take ps.length) with left := max (0 : Int) ((Dsk.ws { D with f2 := tick D.f2 } fua k (ps.take ps.length)).left - 1) }) (pd := pd) (bd := bd) (m := m) (f0 := f0) (bs := bs) (es := es) (clk := clk) (hq := hq2) (Γ := blk b1 [.pointer (some ⟨pd, 0, none⟩)] 23 :: blk b2 [.int .i64 ((k + ps.length : Nat) : Int)] 3 :: blk b3 [.bool fua] 4 :: A :: (R ++ [blk bs_ [.slice (some ⟨g, 0, none⟩) (ps.length * 256) cap] 63, blk bn_ [.int .i64 256] 3])) H (hD2.f hD2.f1 hD2.f2 hD2.f3 (by omega)) (hIn2.f _ _ _ _ _)
       have H := H'.l5; clear H'; have H' := Sep.front (As := diskA pd { Dsk.ws { D with f2 := tick D.f2 } fua k (ps.take ps.length) with left := max (0 : Int) ((Dsk.ws { D with f2 := tick D.f2 } fua k (ps.take ps.length)).left - 1) } :: A :: R) (Bs := [blk bs_ [.slice (some ⟨g, 0, none⟩) (ps.length * 256) cap] 63, blk bn_ [.int .i64 256] 3]) (H.pick 5 [0, 4] rfl)
       exact ⟨[diskA pd { Dsk.ws { D with f2 := tick D.f2 } fua k (ps.take ps.length) with left := max (0 : Int) ((Dsk.ws { D with f2 := tick D.f2 } fua k (ps.take ps.length)).left - 1) }, A], .inr (.inr ⟨by omega, by simp_all, by rw [List.take_length, hlw] at *; exact ⟨rfl, rfl⟩⟩), H'⟩
end Go.Proofs.YtbegkbjigbkljaaGreatDoor
namespace Go.Proofs.YtbegkbjigbkljaaGreatDoor
open Go.RowKit
theorem writen_c (pd b off c n : Nat) (D : Dsk) (x : Int) (ps : List (List UInt8)) (A : Asn) (hps : ∀ p ∈ ps, p.length = 256) (hm : 1 ≤ ps.length ∧ ps.length ≤ 4096) (hver : ∀ i, (D.ver i).length ≤ 1099511627776) (hn : ps.length * 256 = n) (hA : ∀ h, A h → rdH 1 (.slice (some ⟨b, off, none⟩) n c) n (ps.flatten.map u8) h) :
    Cn Tryz.prog 69 [.pointer (some ⟨pd, 0, none⟩), .int .i64 x, .slice (some ⟨b, off, none⟩) n c, .bool false] [diskA pd D, A] (fun v Γ => (¬ (0 ≤ x ∧ x + ps.length ≤ (D.n : Int)) ∧ v = .int .i64 2 ∧ Γ = [diskA pd D, A]) ∨ ((0 ≤ x ∧ x + ps.length ≤ (D.n : Int)) ∧ D.bad ∧ v = .int .i64 11 ∧ Γ = [diskA pd D.wf, A]) ∨ ((0 ≤ x ∧ x + ps.length ≤ (D.n : Int)) ∧ ¬ D.bad ∧ v = .int .i64 0 ∧ Γ = [diskA pd (D.wr x.toNat ps), A])) := by
  subst hn
  refine Cn.mono (write_c pd b off c D x false ps A hps hm hver hA) ?_
  rintro v Γ (⟨h1, h2, h3⟩ | ⟨h1, h2, h3, h4⟩ | ⟨h1, ⟨h2, h2'⟩, h3, h4⟩)
  · exact .inl ⟨h1, h2, h3⟩
  · exact .inr (.inl ⟨h1, h2, h3, h4⟩)
  · exact .inr (.inr ⟨h1, fun q => by rcases q with q | q; exact h2 q; exact h2' q, h3, h4⟩)
set_option maxHeartbeats 1000000 in
theorem append_c (pl pd pt : Nat) (s : Sup) (at_ sq us : Int) (br nu : Bool) (v : Value) (ims : List Img) (A : Asn) (hA : ∀ h, A h → imgsH v ims h) (D : Dsk) (hok : s.Ok (D.n : Int)) (hnu : nu = decide (s.epoch < 4294967296)) (hat : 0 ≤ at_ ∧ at_ < s.len) (hsq : 0 ≤ sq ∧ sq ≤ 2199023255552) (hu : 0 ≤ us ∧ us ≤ s.len) (hver : ∀ i, (D.ver i).length ≤ 1000000000000) : Cn Tryz.prog 94 [.pointer (some ⟨pl, 0, none⟩), v] [lgB pl pd pt s at_ sq us br nu, tblA pt, diskA pd D, A] (fun v Γ => (ims.length > 40 ∧ v = .int .i64 16 ∧ Γ = [lgB pl pd pt s at_ sq us br nu, tblA pt, diskA pd D, A]) ∨ (ims.length ≤ 40 ∧ (ims = [] ∨ ¬ recOK ims) ∧ v = .int .i64 1 ∧ Γ = [lgB pl pd pt s at_ sq us br nu, tblA pt, diskA pd D, A]) ∨ ((1 ≤ ims.length ∧ ims.length ≤ 40) ∧ recOK ims ∧ ¬ (1 + (ims.length : Int) ≤ (if br then 0 else s.len - us) ∧ nu = true ∧ sq < 1099511627776) ∧ v = .int .i64 15 ∧ Γ = [lgB pl pd pt s at_ sq us br nu, tblA pt, diskA pd D, A]) ∨
  ((1 ≤ ims.length ∧ ims.length ≤ 40) ∧ recOK ims ∧ (1 + (ims.length : Int) ≤ (if br then 0 else s.len - us) ∧ nu = true ∧ sq < 1099511627776) ∧ ∃ (k : Nat), (k : Int) = min (1 + (ims.length : Int)) (s.len - at_) ∧ ((¬ D.bad ∧ k = 1 + ims.length ∧ v = .int .i64 0 ∧ Γ = [lgB pl pd pt s ((at_ + (1 + (ims.length : Int))) % s.len) (sq + 1) (us + (1 + (ims.length : Int))) br nu, tblA pt, diskA pd (D.wr (s.start + at_).toNat ((recB s.epoch sq ims).take k)), A]) ∨ (¬ D.bad ∧ k < 1 + ims.length ∧ ¬ Dsk.bad (D.wr (s.start + at_).toNat ((recB s.epoch sq ims).take k)) ∧ v = .int .i64 0 ∧ Γ = [lgB pl pd pt s ((at_ + (1 + (ims.length : Int))) % s.len) (sq + 1) (us + (1 + (ims.length : Int))) br nu, tblA pt, diskA pd ((D.wr (s.start + at_).toNat ((recB s.epoch sq ims).take k)).wr s.start.toNat ((recB s.epoch sq ims).drop k)), A]) ∨
    (D.bad ∧ v = .int .i64 11 ∧ Γ = [lgB pl pd pt s at_ (sq + 1) us true nu, tblA pt, diskA pd D.wf, A]) ∨ (¬ D.bad ∧ k < 1 + ims.length ∧ Dsk.bad (D.wr (s.start + at_).toNat ((recB s.epoch sq ims).take k)) ∧ v = .int .i64 11 ∧ Γ = [lgB pl pd pt s at_ (sq + 1) us true nu, tblA pt, diskA pd (Dsk.wf (D.wr (s.start + at_).toNat ((recB s.epoch sq ims).take k))), A])))) := by
  intro z R w H'
  have H : Sep z (lgB pl pd pt s at_ sq us br nu :: tblA pt :: diskA pd D :: A :: R) w := H'
  clear H'
  obtain ⟨ao, ic, rfl⟩ := H.says 3 rfl (fun h q => (hA h q).slc)
  have hn2 := H.says 2 rfl (fun h q => (diskA.ok q).n2)
  have hims := H.says 3 rfl (fun h q => (hA h q).small)
  have hsg := Sup.get hok
  have hok2 := hok.2
  have hlen40 : ims.length ≤ 40 ∨ 40 < ims.length := by omega
  refine enter Tryz.func94 rfl 96 Tryz.ntmps94 rfl ?_
  refine k_seq ?_
  refine s_region ?_
  refine s_do rfl rfl rfl (d_assign rfl rfl) ?_
  refine s_end ?_
  refine k_seq ?_
  refine k_block ?_
  refine k_seq ?_
  refine s_region ?_
  refine s_do rfl rfl rfl (d_move rfl rfl) ?_
  refine s_do rfl rfl rfl (d_len rfl (z := 3) (by kernel_rfl) rfl) ?_
  refine s_do rfl rfl rfl (d_gtr rfl rfl rfl) ?_
  refine s_do rfl rfl rfl (d_assign rfl rfl) ?_
  refine s_end ?_
  refine k_dec rfl (fun h1 => ?_) (fun h1 => ?_)
  · -- yes: (40 : Int) < (ims.length : Int)
    refine k_seq ?_
    refine s_region ?_
    refine s_do rfl rfl rfl (d_assign rfl rfl) ?_
    refine s_end ?_
    refine k_ret ?_
    refine doneL rfl [.int .i64 16] ⟨rfl, trivial⟩ (v := .int .i64 16) rfl ?_
    exact ⟨_, .inl ⟨by omega, rfl, rfl⟩, H.perm 4 [0, 1, 2, 3] rfl rfl⟩
  · -- no: (40 : Int) < (ims.length : Int)
    have hlen40 : ims.length ≤ 40 := by omega
    refine k_seq ?_
    refine s_region ?_
    refine s_do rfl rfl rfl (d_move rfl rfl) ?_
    refine s_do rfl rfl rfl (d_len rfl (z := 3) (by kernel_rfl) rfl) ?_
    refine s_do rfl rfl rfl (d_eql rfl rfl rfl) ?_
    refine s_do rfl rfl rfl (d_assign rfl rfl) ?_
    refine s_end ?_
    refine k_dec rfl (fun h2 => ?_) (fun h2 => ?_)
    · -- yes: (ims.length : Int) = 0
      refine k_seq ?_
      refine s_region ?_
      refine s_do rfl rfl rfl (d_assign rfl rfl) ?_
      refine s_end ?_
      refine k_ret ?_
      refine doneL rfl [.int .i64 1] ⟨rfl, trivial⟩ (v := .int .i64 1) rfl ?_
      exact ⟨_, .inr (.inl ⟨by omega, by first | exact .inr hrec | exact .inl (List.eq_nil_of_length_eq_zero (by omega)), rfl, rfl⟩), H.perm 4 [0, 1, 2, 3] rfl rfl⟩
    · -- no: (ims.length : Int) = 0
      refine k_skip ?_
      refine k_seq ?_
      refine s_region ?_
      refine s_do rfl rfl rfl (d_move rfl rfl) ?_
      refine s_do rfl rfl rfl (d_move rfl rfl) ?_
      refine s_C rfl rfl rfl rfl rfl (fun w => Tryz.call131 _ w) (record_c _ _ _ _ _ _ _ _ _ _ _ _ hA hnu (by omega) (by omega) ⟨by omega, by omega⟩ (by omega) (by omega)) H.f3.f2.f2 rfl ?_
      rintro _ w _ (⟨hrec, rfl, rfl⟩ | ⟨hrec, hroom, rfl, rfl⟩ | ⟨hrec, hroom, v1, rfl, rfl⟩) H'
      · -- a case
        have H := H'.l4; clear H'
        refine s_do rfl rfl rfl (d_move rfl rfl) ?_
        refine s_do rfl rfl rfl (d_extract rfl rfl rfl) ?_
        refine s_do rfl rfl rfl (d_extract rfl rfl rfl) ?_
        refine s_do rfl rfl rfl (d_assign rfl rfl) ?_
        refine s_do rfl rfl rfl (d_assign rfl rfl) ?_
        refine s_end ?_
        refine k_seq ?_
        refine k_seq ?_
        refine s_region ?_
        refine s_do rfl rfl rfl (d_move rfl rfl) ?_
        refine s_do rfl rfl rfl (d_neq rfl rfl rfl) ?_
        refine k_updA 23 (u := .bool (decide ((1 : Int) ≠ 0))) (v := .bool true) rfl (congrArg Value.bool (by decide)) ?_
        refine s_end ?_
        refine k_true rfl ?_
        refine k_seq ?_
        refine s_region ?_
        refine s_do rfl rfl rfl (d_move rfl rfl) ?_
        refine s_do rfl rfl rfl (d_assign rfl rfl) ?_
        refine s_end ?_
        refine k_ret ?_
        refine doneL rfl [.int .i64 1] ⟨rfl, trivial⟩ (v := .int .i64 1) rfl ?_
        exact ⟨_, .inr (.inl ⟨by omega, by first | exact .inr hrec | exact .inl (List.eq_nil_of_length_eq_zero (by omega)), rfl, rfl⟩), H.perm 4 [0, 1, 3, 2] rfl rfl⟩
      · -- a case
        have H := H'.l4; clear H'
        refine s_do rfl rfl rfl (d_move rfl rfl) ?_
        refine s_do rfl rfl rfl (d_extract rfl rfl rfl) ?_
        refine s_do rfl rfl rfl (d_extract rfl rfl rfl) ?_
        refine s_do rfl rfl rfl (d_assign rfl rfl) ?_
        refine s_do rfl rfl rfl (d_assign rfl rfl) ?_
        refine s_end ?_
        refine k_seq ?_
        refine k_seq ?_
        refine s_region ?_
        refine s_do rfl rfl rfl (d_move rfl rfl) ?_
        refine s_do rfl rfl rfl (d_neq rfl rfl rfl) ?_
        refine k_updA 23 (u := .bool (decide ((15 : Int) ≠ 0))) (v := .bool true) rfl (congrArg Value.bool (by decide)) ?_
        refine s_end ?_
        refine k_true rfl ?_
        refine k_seq ?_
        refine s_region ?_
        refine s_do rfl rfl rfl (d_move rfl rfl) ?_
        refine s_do rfl rfl rfl (d_assign rfl rfl) ?_
        refine s_end ?_
        refine k_ret ?_
        refine doneL rfl [.int .i64 15] ⟨rfl, trivial⟩ (v := .int .i64 15) rfl ?_
        exact ⟨_, .inr (.inr (.inl ⟨⟨by omega, by omega⟩, hrec, hroom, rfl, rfl⟩)), H.perm 4 [0, 1, 3, 2] rfl rfl⟩
      · -- a case
        have H := H'.l5; clear H'
        have hrb := recB_ok (e := s.epoch) (sq := sq) hrec.1 hlen40
        refine s_do rfl rfl rfl (d_move rfl rfl) ?_
        obtain ⟨gb, gc, rfl, hgc, hgc2⟩ := H.says 0 rfl (fun h q => q.sl (by omega))
        generalize hps : recB s.epoch sq ims = ps at H hrb
        obtain ⟨hp256, hpl⟩ := hrb
        have hfl := flat_256 hp256
        have H : Sep z (grow 5 1 (.slice (some ⟨gb, 0, none⟩) ((1 + ims.length) * 256) gc) ((1 + ims.length) * 256) (ps.flatten.map u8) :: lgB pl pd pt s at_ sq us br nu :: tblA pt :: A :: diskA pd D :: R) w := H
        obtain ⟨k, hk⟩ : ∃ k : Nat, (k : Int) = min (1 + (ims.length : Int)) (s.len - at_) := ⟨(min (1 + (ims.length : Int)) (s.len - at_)).toNat, by omega⟩
        have hkl : (ps.take k).length = k := by rw [List.length_take]; omega
        have hkd : (ps.drop k).length = 1 + ims.length - k := by rw [List.length_drop]; omega
        refine s_do rfl rfl rfl (d_extract rfl rfl rfl) ?_
        refine s_do rfl rfl rfl (d_extract rfl rfl rfl) ?_
        refine s_do rfl rfl rfl (d_assign rfl rfl) ?_
        refine s_do rfl rfl rfl (d_assign rfl rfl) ?_
        refine s_end ?_
        refine k_seq ?_
        refine k_seq ?_
        refine s_region ?_
        refine s_do rfl rfl rfl (d_move rfl rfl) ?_
        refine s_do rfl rfl rfl (d_neq rfl rfl rfl) ?_
        refine k_updA 23 (u := .bool (decide ((0 : Int) ≠ 0))) (v := .bool false) rfl (congrArg Value.bool (by decide)) ?_
        refine s_end ?_
        refine k_false rfl ?_
        refine k_skip ?_
        refine k_seq ?_
        refine q_region (Sep z _) (by kernel_rfl) (by kernel_rfl) H.drew ?_
        refine q_do rfl rfl rfl (d_move rfl rfl) ?_
        refine q_do rfl rfl rfl (d_len rfl (z := 1) (by kernel_rfl) rfl) ?_
        refine q_do rfl rfl rfl (d_move rfl rfl) ?_
        refine q_do rfl rfl rfl (d_nilCheck rfl rfl) ?_
        refine q_do rfl rfl rfl (d_field rfl (k := 2) (r := 2) (by kernel_rfl) rfl rfl) ?_
        refine q_do rfl rfl rfl (d_field rfl (k := 4) (r := 6) (by kernel_rfl) rfl rfl) ?_
        refine q_do rfl rfl rfl (d_load rfl rfl (by kernel_rfl) (fun _ hx => hx.cel 1 rfl 6 rfl)) ?_
        refine q_do rfl rfl rfl (d_move rfl rfl) ?_
        refine q_do rfl rfl rfl (d_nilCheck rfl rfl) ?_
        refine q_do rfl rfl rfl (d_field rfl (k := 9) (r := 9) (by kernel_rfl) rfl rfl) ?_
        refine q_do rfl rfl rfl (d_load rfl rfl (by kernel_rfl) (fun _ hx => hx.cel 1 rfl 9 rfl)) ?_
        refine q_do rfl rfl rfl (d_sub64 rfl rfl rfl (r := s.len - at_) (by omega) (by omega)) ?_
        refine q_do rfl rfl rfl (d_mul64 rfl rfl rfl (r := (s.len - at_) * 256) (by omega) (by omega)) ?_
        refine q_do rfl rfl rfl (d_min rfl rfl rfl) ?_
        refine k_updA 38 (u := .int .i64 (min ((((1 + ims.length) * 256 : Nat) : Int) : Int) ((s.len - at_) * 256))) (v := .int .i64 ((k * 256 : Nat) : Int)) rfl (congrArg (Value.int .i64) (by omega)) ?_
        refine q_do rfl rfl rfl (d_assign rfl rfl) ?_
        refine q_end (fun w H' => ?_)
        have H := H'.l5; clear H'
        refine k_seq ?_
        replace H := H.f1
        refine a_region (Sep z (lgB pl pd pt s at_ sq us br nu :: R)) 19 rfl (by kernel_rfl) (fun w' x' _ => ?_)
        have H' := H.ext0 x'; clear x' H; revert H'; generalize w' = w; intro H'
        have H := H'.l5; clear H'
        refine a_do 0 rfl (by kernel_rfl) (by kernel_rfl) (by kernel_rfl) rfl rfl rfl (d_move rfl rfl) (H.pick 5 [0] rfl) ?_
        refine a_do 1 rfl (by kernel_rfl) (by kernel_rfl) (by kernel_rfl) rfl rfl rfl (d_nilCheck rfl rfl) (H.pick 5 [0] rfl) ?_
        refine a_do 2 rfl (by kernel_rfl) (by kernel_rfl) (by kernel_rfl) rfl rfl rfl (d_field rfl (k := 0) (r := 0) (by kernel_rfl) rfl rfl) (H.pick 5 [0] rfl) ?_
        refine a_do 3 rfl (by kernel_rfl) (by kernel_rfl) (by kernel_rfl) rfl rfl rfl (d_load rfl rfl (by kernel_rfl) (fun _ hx => hx.cel 0 rfl 0 rfl)) (H.pick 5 [0] rfl) ?_
        refine a_do 4 rfl (by kernel_rfl) (by kernel_rfl) (by kernel_rfl) rfl rfl rfl (d_move rfl rfl) (H.pick 5 [0] rfl) ?_
        refine a_do 5 rfl (by kernel_rfl) (by kernel_rfl) (by kernel_rfl) rfl rfl rfl (d_nilCheck rfl rfl) (H.pick 5 [0] rfl) ?_
        refine a_do 6 rfl (by kernel_rfl) (by kernel_rfl) (by kernel_rfl) rfl rfl rfl (d_field rfl (k := 2) (r := 2) (by kernel_rfl) rfl rfl) (H.pick 5 [0] rfl) ?_
        refine a_do 7 rfl (by kernel_rfl) (by kernel_rfl) (by kernel_rfl) rfl rfl rfl (d_field rfl (k := 3) (r := 5) (by kernel_rfl) rfl rfl) (H.pick 5 [0] rfl) ?_
        refine a_do 8 rfl (by kernel_rfl) (by kernel_rfl) (by kernel_rfl) rfl rfl rfl (d_load rfl rfl (by kernel_rfl) (fun _ hx => hx.cel 0 rfl 5 rfl)) (H.pick 5 [0] rfl) ?_
        refine a_do 9 rfl (by kernel_rfl) (by kernel_rfl) (by kernel_rfl) rfl rfl rfl (d_move rfl rfl) (H.pick 5 [0] rfl) ?_
        refine a_do 10 rfl (by kernel_rfl) (by kernel_rfl) (by kernel_rfl) rfl rfl rfl (d_nilCheck rfl rfl) (H.pick 5 [0] rfl) ?_
        refine a_do 11 rfl (by kernel_rfl) (by kernel_rfl) (by kernel_rfl) rfl rfl rfl (d_field rfl (k := 9) (r := 9) (by kernel_rfl) rfl rfl) (H.pick 5 [0] rfl) ?_
        refine a_do 12 rfl (by kernel_rfl) (by kernel_rfl) (by kernel_rfl) rfl rfl rfl (d_load rfl rfl (by kernel_rfl) (fun _ hx => hx.cel 0 rfl 9 rfl)) (H.pick 5 [0] rfl) ?_
        refine a_do 13 rfl (by kernel_rfl) (by kernel_rfl) (by kernel_rfl) rfl rfl rfl (d_add64 rfl rfl rfl (r := s.start + at_) (by omega) (by omega)) (H.pick 5 [0] rfl) ?_
        refine a_do 14 rfl (by kernel_rfl) (by kernel_rfl) (by kernel_rfl) rfl rfl rfl (d_move rfl rfl) (H.pick 5 [0] rfl) ?_
        refine a_do 15 rfl (by kernel_rfl) (by kernel_rfl) (by kernel_rfl) rfl rfl rfl (d_move rfl rfl) (H.pick 5 [0] rfl) ?_
        refine a_do 16 rfl (by kernel_rfl) (by kernel_rfl) (by kernel_rfl) rfl rfl rfl (d_sliceC rfl (z := 1) (p := 0) (q := (k * 256)) (o' := 0) (l' := (k * 256)) (c' := gc) (by kernel_rfl) rfl (.inl ⟨rfl, rfl⟩) (.inr ⟨_, _, _, rfl, rfl, rfl⟩) (by omega) (by omega) (by omega) (by omega) (by omega) (by omega)) (H.pick 5 [0] rfl) ?_
        refine a_all [17] (by kernel_rfl) (by simp) ?_
        refine all1 ?_
        refine o_C rfl rfl rfl rfl rfl rfl (fun w => Tryz.call69 _ w) (writen_c _ _ _ _ _ _ _ (ps.take k) _ (fun p hp => hp256 p (List.mem_of_mem_take hp)) (by omega) (fun i => by have := hver i; omega) (by rw [hkl]) (fun h q => by rw [flat_take hp256]; exact (grow.rdB q).pre (by omega) (by omega))) H.f1.f4 rfl ?_
        rintro _ w _ (⟨hn1, rfl, rfl⟩ | ⟨_, hbad1, rfl, rfl⟩ | ⟨_, hgood1, rfl, rfl⟩) H'
        · exact absurd ⟨by omega, by omega⟩ hn1
        · -- a case
          have H := H'.l5; clear H'
          refine a_and (H.pick 5 [2] rfl) ?_
          refine a_do 18 rfl (by kernel_rfl) (by kernel_rfl) (by kernel_rfl) rfl rfl rfl (d_assign rfl rfl) (H.pick 5 [2] rfl) ?_
          refine a_done (by kernel_rfl) ?_
          refine k_seq ?_
          refine k_seq ?_
          refine s_region ?_
          refine s_do rfl rfl rfl (d_move rfl rfl) ?_
          refine s_do rfl rfl rfl (d_eql rfl rfl rfl) ?_
          refine k_updA 58 (u := .bool (decide ((11 : Int) = 0))) (v := .bool false) rfl (congrArg Value.bool (by decide)) ?_
          refine s_do rfl rfl rfl (d_move rfl rfl) ?_
          refine s_skip rfl rfl rfl ?_
          refine s_skip rfl rfl rfl ?_
          refine s_skip rfl rfl rfl ?_
          refine s_skip rfl rfl rfl ?_
          refine s_do rfl rfl rfl (d_pick_f rfl rfl rfl) ?_
          refine s_end ?_
          refine k_false rfl ?_
          refine k_skip ?_
          refine k_seq ?_
          refine k_seq ?_
          refine s_region ?_
          refine s_do rfl rfl rfl (d_move rfl rfl) ?_
          refine s_do rfl rfl rfl (d_neq rfl rfl rfl) ?_
          refine k_updA 79 (u := .bool (decide ((11 : Int) ≠ 0))) (v := .bool true) rfl (congrArg Value.bool (by decide)) ?_
          refine s_end ?_
          refine k_true rfl ?_
          refine k_seq ?_
          refine s_region ?_
          refine s_do rfl rfl rfl (d_move rfl rfl) ?_
          refine s_do rfl rfl rfl (d_nilCheck rfl rfl) ?_
          refine s_do rfl rfl rfl (d_field rfl (k := 10) (r := 10) (by kernel_rfl) rfl rfl) ?_
          refine s_do rfl rfl rfl (d_load rfl rfl (by kernel_rfl) (here (H.cel 2 rfl 10 rfl))) ?_
          refine s_do rfl rfl rfl (d_add64 rfl rfl rfl (r := sq + 1) (by omega) (by omega)) ?_
          refine s_do rfl rfl rfl (d_nilCheck rfl rfl) ?_
          refine s_do rfl rfl rfl (d_field rfl (k := 10) (r := 10) (by kernel_rfl) rfl rfl) ?_
          refine s_put rfl rfl (n_store 2 H rfl rfl rfl rfl (vs := [.int .i64 (sq + 1)]) rfl (by simp [u8, u32, Value.oneCell']) (by kernel_rfl) (by simp) (out := [.pointer (some ⟨pd, 0, none⟩), .pointer (some ⟨pt, 0, none⟩), .int .i64 s.gen, .int .i64 s.epoch, .int .i64 s.pages, .int .i64 s.start, .int .i64 s.len, .int .i64 s.head, .int .i64 s.seq, .int .i64 at_, .int .i64 (sq + 1), .int .i64 us, .bool br, .bool nu]) rfl) ?_
          rintro w H'
          have H := H'.l5; clear H'
          refine s_end ?_
          refine k_seq ?_
          refine s_region ?_
          refine s_do rfl rfl rfl (d_move rfl rfl) ?_
          refine s_do rfl rfl rfl (d_nilCheck rfl rfl) ?_
          refine s_do rfl rfl rfl (d_field rfl (k := 12) (r := 12) (by kernel_rfl) rfl rfl) ?_
          refine s_put rfl rfl (n_store 2 H rfl rfl rfl rfl (vs := [.bool true]) rfl (by simp [u8, u32, Value.oneCell']) (by kernel_rfl) (by simp) (out := [.pointer (some ⟨pd, 0, none⟩), .pointer (some ⟨pt, 0, none⟩), .int .i64 s.gen, .int .i64 s.epoch, .int .i64 s.pages, .int .i64 s.start, .int .i64 s.len, .int .i64 s.head, .int .i64 s.seq, .int .i64 at_, .int .i64 (sq + 1), .int .i64 us, .bool true, .bool nu]) rfl) ?_
          rintro w H'
          have H := H'.l5; clear H'
          refine s_end ?_
          refine k_seq ?_
          refine s_region ?_
          refine s_do rfl rfl rfl (d_move rfl rfl) ?_
          refine s_do rfl rfl rfl (d_assign rfl rfl) ?_
          refine s_end ?_
          refine k_ret ?_
          refine doneL rfl [.int .i64 11] ⟨rfl, trivial⟩ (v := .int .i64 11) rfl ?_
          subst hps
          exact ⟨_, .inr (.inr (.inr ⟨⟨by omega, by omega⟩, hrec, hroom, k, hk, .inr (.inr (.inl ⟨hbad1, rfl, rfl⟩))⟩)), H.perm 5 [2, 3, 0, 4] rfl rfl⟩
        · -- a case
          have H := H'.l5; clear H'
          refine a_and (H.pick 5 [2] rfl) ?_
          refine a_do 18 rfl (by kernel_rfl) (by kernel_rfl) (by kernel_rfl) rfl rfl rfl (d_assign rfl rfl) (H.pick 5 [2] rfl) ?_
          refine a_done (by kernel_rfl) ?_
          refine k_seq ?_
          refine k_seq ?_
          refine s_region ?_
          refine s_do rfl rfl rfl (d_move rfl rfl) ?_
          refine s_do rfl rfl rfl (d_eql rfl rfl rfl) ?_
          refine k_updA 58 (u := .bool (decide ((0 : Int) = 0))) (v := .bool true) rfl (congrArg Value.bool (by decide)) ?_
          refine s_do rfl rfl rfl (d_move rfl rfl) ?_
          refine s_do rfl rfl rfl (d_move rfl rfl) ?_
          refine s_do rfl rfl rfl (d_move rfl rfl) ?_
          refine s_do rfl rfl rfl (d_len rfl (z := 1) (by kernel_rfl) rfl) ?_
          refine s_do rfl rfl rfl (d_lss rfl rfl rfl) ?_
          refine s_do rfl rfl rfl (d_pick_t rfl rfl rfl) ?_
          refine s_end ?_
          refine k_dec rfl (fun h3 => ?_) (fun h3 => ?_)
          · -- yes: ((k * 256 : Nat) : Int) < (((1 + ims.length) * 256 : Nat) : Int)
            replace H := H.f2
            refine a_region (Sep z (lgB pl pd pt s at_ sq us br nu :: R)) 14 rfl (by kernel_rfl) (fun w' x' _ => ?_)
            have H' := H.ext0 x'; clear x' H; revert H'; generalize w' = w; intro H'
            have H := H'.l5; clear H'
            refine a_do 0 rfl (by kernel_rfl) (by kernel_rfl) (by kernel_rfl) rfl rfl rfl (d_move rfl rfl) (H.pick 5 [0] rfl) ?_
            refine a_do 1 rfl (by kernel_rfl) (by kernel_rfl) (by kernel_rfl) rfl rfl rfl (d_nilCheck rfl rfl) (H.pick 5 [0] rfl) ?_
            refine a_do 2 rfl (by kernel_rfl) (by kernel_rfl) (by kernel_rfl) rfl rfl rfl (d_field rfl (k := 0) (r := 0) (by kernel_rfl) rfl rfl) (H.pick 5 [0] rfl) ?_
            refine a_do 3 rfl (by kernel_rfl) (by kernel_rfl) (by kernel_rfl) rfl rfl rfl (d_load rfl rfl (by kernel_rfl) (fun _ hx => hx.cel 0 rfl 0 rfl)) (H.pick 5 [0] rfl) ?_
            refine a_do 4 rfl (by kernel_rfl) (by kernel_rfl) (by kernel_rfl) rfl rfl rfl (d_move rfl rfl) (H.pick 5 [0] rfl) ?_
            refine a_do 5 rfl (by kernel_rfl) (by kernel_rfl) (by kernel_rfl) rfl rfl rfl (d_nilCheck rfl rfl) (H.pick 5 [0] rfl) ?_
            refine a_do 6 rfl (by kernel_rfl) (by kernel_rfl) (by kernel_rfl) rfl rfl rfl (d_field rfl (k := 2) (r := 2) (by kernel_rfl) rfl rfl) (H.pick 5 [0] rfl) ?_
            refine a_do 7 rfl (by kernel_rfl) (by kernel_rfl) (by kernel_rfl) rfl rfl rfl (d_field rfl (k := 3) (r := 5) (by kernel_rfl) rfl rfl) (H.pick 5 [0] rfl) ?_
            refine a_do 8 rfl (by kernel_rfl) (by kernel_rfl) (by kernel_rfl) rfl rfl rfl (d_load rfl rfl (by kernel_rfl) (fun _ hx => hx.cel 0 rfl 5 rfl)) (H.pick 5 [0] rfl) ?_
            refine a_do 9 rfl (by kernel_rfl) (by kernel_rfl) (by kernel_rfl) rfl rfl rfl (d_move rfl rfl) (H.pick 5 [0] rfl) ?_
            refine a_do 10 rfl (by kernel_rfl) (by kernel_rfl) (by kernel_rfl) rfl rfl rfl (d_move rfl rfl) (H.pick 5 [0] rfl) ?_
            refine a_do 11 rfl (by kernel_rfl) (by kernel_rfl) (by kernel_rfl) rfl rfl rfl (d_sliceC rfl (z := 1) (p := (k * 256)) (q := ((1 + ims.length) * 256)) (o' := k * 256) (l' := ((1 + ims.length) * 256) - (k * 256)) (c' := gc - (k * 256)) (by kernel_rfl) rfl (.inr ⟨_, _, _, rfl, rfl, rfl⟩) (.inl ⟨rfl, rfl⟩) (by omega) (by omega) (by omega) (by omega) (by omega) (by omega)) (H.pick 5 [0] rfl) ?_
            refine a_all [12] (by kernel_rfl) (by simp) ?_
            refine all1 ?_
            refine o_C rfl rfl rfl rfl rfl rfl (fun w => Tryz.call69 _ w) (writen_c _ _ _ _ _ _ _ (ps.drop k) _ (fun p hp => hp256 p (List.mem_of_mem_drop hp)) (by omega) (fun i => by have h1 := hver i; have h2 := Dsk.wr_len D (s.start + at_).toNat (ps.take k) i; omega) (by rw [hkd]; omega) (fun h q => by have := (grow.rdB q).cut (lo := k * 256) (m := (1 + ims.length) * 256 - k * 256) (c' := gc - k * 256) (by omega) (by omega) (by omega); rw [flat_drop hp256]; rwa [List.take_of_length_le (by rw [List.length_drop]; omega), Nat.zero_add] at this)) H.f2.f2 rfl ?_
            rintro _ w _ (⟨hn2, rfl, rfl⟩ | ⟨_, hbad2, rfl, rfl⟩ | ⟨_, hgood2, rfl, rfl⟩) H'
            · exact absurd ⟨by omega, by rw [Dsk.wr_n]; omega⟩ hn2
            · -- a case
              have H := H'.l5; clear H'
              refine a_and (H.pick 5 [2] rfl) ?_
              refine a_do 13 rfl (by kernel_rfl) (by kernel_rfl) (by kernel_rfl) rfl rfl rfl (d_assign rfl rfl) (H.pick 5 [2] rfl) ?_
              refine a_done (by kernel_rfl) ?_
              refine k_seq ?_
              refine k_seq ?_
              refine s_region ?_
              refine s_do rfl rfl rfl (d_move rfl rfl) ?_
              refine s_do rfl rfl rfl (d_neq rfl rfl rfl) ?_
              refine k_updA 79 (u := .bool (decide ((11 : Int) ≠ 0))) (v := .bool true) rfl (congrArg Value.bool (by decide)) ?_
              refine s_end ?_
              refine k_true rfl ?_
              refine k_seq ?_
              refine s_region ?_
              refine s_do rfl rfl rfl (d_move rfl rfl) ?_
              refine s_do rfl rfl rfl (d_nilCheck rfl rfl) ?_
              refine s_do rfl rfl rfl (d_field rfl (k := 10) (r := 10) (by kernel_rfl) rfl rfl) ?_
              refine s_do rfl rfl rfl (d_load rfl rfl (by kernel_rfl) (here (H.cel 2 rfl 10 rfl))) ?_
              refine s_do rfl rfl rfl (d_add64 rfl rfl rfl (r := sq + 1) (by omega) (by omega)) ?_
              refine s_do rfl rfl rfl (d_nilCheck rfl rfl) ?_
              refine s_do rfl rfl rfl (d_field rfl (k := 10) (r := 10) (by kernel_rfl) rfl rfl) ?_
              refine s_put rfl rfl (n_store 2 H rfl rfl rfl rfl (vs := [.int .i64 (sq + 1)]) rfl (by simp [u8, u32, Value.oneCell']) (by kernel_rfl) (by simp) (out := [.pointer (some ⟨pd, 0, none⟩), .pointer (some ⟨pt, 0, none⟩), .int .i64 s.gen, .int .i64 s.epoch, .int .i64 s.pages, .int .i64 s.start, .int .i64 s.len, .int .i64 s.head, .int .i64 s.seq, .int .i64 at_, .int .i64 (sq + 1), .int .i64 us, .bool br, .bool nu]) rfl) ?_
              rintro w H'
              have H := H'.l5; clear H'
              refine s_end ?_
              refine k_seq ?_
              refine s_region ?_
              refine s_do rfl rfl rfl (d_move rfl rfl) ?_
              refine s_do rfl rfl rfl (d_nilCheck rfl rfl) ?_
              refine s_do rfl rfl rfl (d_field rfl (k := 12) (r := 12) (by kernel_rfl) rfl rfl) ?_
              refine s_put rfl rfl (n_store 2 H rfl rfl rfl rfl (vs := [.bool true]) rfl (by simp [u8, u32, Value.oneCell']) (by kernel_rfl) (by simp) (out := [.pointer (some ⟨pd, 0, none⟩), .pointer (some ⟨pt, 0, none⟩), .int .i64 s.gen, .int .i64 s.epoch, .int .i64 s.pages, .int .i64 s.start, .int .i64 s.len, .int .i64 s.head, .int .i64 s.seq, .int .i64 at_, .int .i64 (sq + 1), .int .i64 us, .bool true, .bool nu]) rfl) ?_
              rintro w H'
              have H := H'.l5; clear H'
              refine s_end ?_
              refine k_seq ?_
              refine s_region ?_
              refine s_do rfl rfl rfl (d_move rfl rfl) ?_
              refine s_do rfl rfl rfl (d_assign rfl rfl) ?_
              refine s_end ?_
              refine k_ret ?_
              refine doneL rfl [.int .i64 11] ⟨rfl, trivial⟩ (v := .int .i64 11) rfl ?_
              subst hps
              exact ⟨_, .inr (.inr (.inr ⟨⟨by omega, by omega⟩, hrec, hroom, k, hk, .inr (.inr (.inr ⟨hgood1, by omega, hbad2, rfl, rfl⟩))⟩)), H.perm 5 [2, 3, 0, 4] rfl rfl⟩
            · -- a case
              have H := H'.l5; clear H'
              refine a_and (H.pick 5 [2] rfl) ?_
              refine a_do 13 rfl (by kernel_rfl) (by kernel_rfl) (by kernel_rfl) rfl rfl rfl (d_assign rfl rfl) (H.pick 5 [2] rfl) ?_
              refine a_done (by kernel_rfl) ?_
              refine k_seq ?_
              refine k_seq ?_
              refine s_region ?_
              refine s_do rfl rfl rfl (d_move rfl rfl) ?_
              refine s_do rfl rfl rfl (d_neq rfl rfl rfl) ?_
              refine k_updA 79 (u := .bool (decide ((0 : Int) ≠ 0))) (v := .bool false) rfl (congrArg Value.bool (by decide)) ?_
              refine s_end ?_
              refine k_false rfl ?_
              refine k_skip ?_
              refine k_seq ?_
              refine s_region ?_
              refine s_do rfl rfl rfl (d_move rfl rfl) ?_
              refine s_do rfl rfl rfl (d_move rfl rfl) ?_
              refine s_do rfl rfl rfl (d_len rfl (z := 3) (by kernel_rfl) rfl) ?_
              refine s_do rfl rfl rfl (d_add64 rfl rfl rfl (r := 1 + (ims.length : Int)) (by omega) (by omega)) ?_
              refine s_C rfl rfl rfl rfl rfl (fun w => Tryz.call106 _ w) (passed_c _ _ _ _ _ _ _ _ _ _ (by omega) (by omega) (by omega) (by omega) (by omega)) H.f2 rfl ?_
              rintro _ w _ ⟨rfl, rfl⟩ H'
              have H := H'.l5; clear H'
              refine s_end ?_
              refine k_seq ?_
              refine s_region ?_
              refine s_do rfl rfl rfl (d_assign rfl rfl) ?_
              refine s_end ?_
              refine k_ret ?_
              refine doneL rfl [.int .i64 0] ⟨rfl, trivial⟩ (v := .int .i64 0) rfl ?_
              subst hps
              exact ⟨_, .inr (.inr (.inr ⟨⟨by omega, by omega⟩, hrec, hroom, k, hk, .inr (.inl ⟨hgood1, by omega, hgood2, rfl, rfl⟩)⟩)), H.perm 5 [0, 3, 1, 4] rfl rfl⟩
          · -- no: ((k * 256 : Nat) : Int) < (((1 + ims.length) * 256 : Nat) : Int)
            refine k_skip ?_
            refine k_seq ?_
            refine k_seq ?_
            refine s_region ?_
            refine s_do rfl rfl rfl (d_move rfl rfl) ?_
            refine s_do rfl rfl rfl (d_neq rfl rfl rfl) ?_
            refine k_updA 79 (u := .bool (decide ((0 : Int) ≠ 0))) (v := .bool false) rfl (congrArg Value.bool (by decide)) ?_
            refine s_end ?_
            refine k_false rfl ?_
            refine k_skip ?_
            refine k_seq ?_
            refine s_region ?_
            refine s_do rfl rfl rfl (d_move rfl rfl) ?_
            refine s_do rfl rfl rfl (d_move rfl rfl) ?_
            refine s_do rfl rfl rfl (d_len rfl (z := 3) (by kernel_rfl) rfl) ?_
            refine s_do rfl rfl rfl (d_add64 rfl rfl rfl (r := 1 + (ims.length : Int)) (by omega) (by omega)) ?_
            refine s_C rfl rfl rfl rfl rfl (fun w => Tryz.call106 _ w) (passed_c _ _ _ _ _ _ _ _ _ _ (by omega) (by omega) (by omega) (by omega) (by omega)) H.f2 rfl ?_
            rintro _ w _ ⟨rfl, rfl⟩ H'
            have H := H'.l5; clear H'
            refine s_end ?_
            refine k_seq ?_
            refine s_region ?_
            refine s_do rfl rfl rfl (d_assign rfl rfl) ?_
            refine s_end ?_
            refine k_ret ?_
            refine doneL rfl [.int .i64 0] ⟨rfl, trivial⟩ (v := .int .i64 0) rfl ?_
            subst hps
            exact ⟨_, .inr (.inr (.inr ⟨⟨by omega, by omega⟩, hrec, hroom, k, hk, .inl ⟨hgood1, by omega, rfl, rfl⟩⟩)), H.perm 5 [0, 3, 1, 4] rfl rfl⟩
end Go.Proofs.YtbegkbjigbkljaaGreatDoor
namespace Go.Proofs.YtbegkbjigbkljaaGreatDoor
open Go.RowKit Go.Shelf
def laysSort_ren : Go.Shelf.Ren := ⟨fun | 189 => 126 | 125 => 148 | 257 => 147 | 128 => 164 | 129 => 165 | 294 => 155 | 295 => 156 | 296 => 157 | 297 => 158 | 298 => 159 | 299 => 160 | 216 => 161 | 300 => 162 | 301 => 163 | 328 => 175 | 329 => 176 | 330 => 177 | 331 => 178 | 332 => 179 | 215 => 180 | 343 => 189 | n => n, fun | 28 => 45 | 3 => 3 | 46 => 200 | 0 => 0 | 51 => 136 | 53 => 235 | 4 => 4 | 183 => 227 | 182 => 226 | 131 => 231 | 5 => 5 | 9 => 9 | 218 => 244 | 222 => 201 | 228 => 257 | 229 => 192 | n => n, fun | n => n⟩
theorem laysSort : Go.Proofs.Lays.n189 Tryz.prog laysSort_ren := {
  mixed := by kernel_rfl,
  f125 := Tryz.func148.trans (congrArg some (by kernel_rfl)),
  f128 := Tryz.func164.trans (congrArg some (by kernel_rfl)),
  f129 := Tryz.func165.trans (congrArg some (by kernel_rfl)),
  f189 := Tryz.func126.trans (congrArg some (by kernel_rfl)),
  f215 := Tryz.func180.trans (congrArg some (by kernel_rfl)),
  f216 := Tryz.func161.trans (congrArg some (by kernel_rfl)),
  f257 := Tryz.func147.trans (congrArg some (by kernel_rfl)),
  f294 := Tryz.func155.trans (congrArg some (by kernel_rfl)),
  f295 := Tryz.func156.trans (congrArg some (by kernel_rfl)),
  f296 := Tryz.func157.trans (congrArg some (by kernel_rfl)),
  f297 := Tryz.func158.trans (congrArg some (by kernel_rfl)),
  f298 := Tryz.func159.trans (congrArg some (by kernel_rfl)),
  f299 := Tryz.func160.trans (congrArg some (by kernel_rfl)),
  f300 := Tryz.func162.trans (congrArg some (by kernel_rfl)),
  f301 := Tryz.func163.trans (congrArg some (by kernel_rfl)),
  f328 := Tryz.func175.trans (congrArg some (by kernel_rfl)),
  f329 := Tryz.func176.trans (congrArg some (by kernel_rfl)),
  f330 := Tryz.func177.trans (congrArg some (by kernel_rfl)),
  f331 := Tryz.func178.trans (congrArg some (by kernel_rfl)),
  f332 := Tryz.func179.trans (congrArg some (by kernel_rfl)),
  f343 := Tryz.func189.trans (congrArg some (by kernel_rfl)),
  t0 := Tryz.underlying0,
  a0 := Tryz.isAgg0,
  z0 := Tryz.sizeOf0,
  v0 := Tryz.zeroValue0,
  t3 := Tryz.underlying3,
  a3 := Tryz.isAgg3,
  z3 := Tryz.sizeOf3,
  v3 := Tryz.zeroValue3,
  t4 := Tryz.underlying4,
  a4 := Tryz.isAgg4,
  z4 := Tryz.sizeOf4,
  v4 := Tryz.zeroValue4,
  t5 := Tryz.underlying5,
  a5 := Tryz.isAgg5,
  z5 := Tryz.sizeOf5,
  v5 := Tryz.zeroValue5,
  t9 := Tryz.underlying9,
  a9 := Tryz.isAgg9,
  z9 := Tryz.sizeOf9,
  v9 := Tryz.zeroValue9,
  t28 := Tryz.underlying45,
  a28 := Tryz.isAgg45,
  z28 := Tryz.sizeOf45,
  v28 := Tryz.zeroValue45,
  t46 := Tryz.underlying200,
  a46 := Tryz.isAgg200,
  z46 := Tryz.sizeOf200,
  v46 := Tryz.zeroValue200,
  t51 := Tryz.underlying136,
  a51 := Tryz.isAgg136,
  z51 := Tryz.sizeOf136,
  v51 := Tryz.zeroValue136,
  t53 := Tryz.underlying235,
  a53 := Tryz.isAgg235,
  z53 := Tryz.sizeOf235,
  v53 := Tryz.zeroValue235,
  t131 := Tryz.underlying231,
  a131 := Tryz.isAgg231,
  z131 := Tryz.sizeOf231,
  v131 := Tryz.zeroValue231,
  t182 := Tryz.underlying226,
  a182 := Tryz.isAgg226,
  z182 := Tryz.sizeOf226,
  v182 := Tryz.zeroValue226,
  t183 := Tryz.underlying227,
  a183 := Tryz.isAgg227,
  z183 := Tryz.sizeOf227,
  v183 := Tryz.zeroValue227,
  t218 := Tryz.underlying244,
  a218 := Tryz.isAgg244,
  z218 := Tryz.sizeOf244,
  v218 := Tryz.zeroValue244,
  t222 := Tryz.underlying201,
  a222 := Tryz.isAgg201,
  z222 := Tryz.sizeOf201,
  v222 := Tryz.zeroValue201,
  t228 := Tryz.underlying257,
  a228 := Tryz.isAgg257,
  z228 := Tryz.sizeOf257,
  v228 := Tryz.zeroValue257,
  t229 := Tryz.underlying192,
  a229 := Tryz.isAgg192,
  z229 := Tryz.sizeOf192,
  v229 := Tryz.zeroValue192 }
open Go.Sort in
theorem sort_sep {z w : World} {R : List Asn} {b n : Nat} {cs : List Value} {ty : TypeId} (H : Sep z (blk b cs ty :: R) w) (ys : List Int) (os : Array Obj) :
    Sep z (blk b ((putCells (Value.int .i64) 0 ys.toArray cs.toArray).toList) ty :: R) (Go.Sort.grow (putRow (Value.int .i64) (Go.Sort.ahead w n) b 0 ys.toArray) os) := by
  have hb : w.heap[b]? = some (.cells cs.toArray ty (0, 0)) := H.blk 0 rfl
  have hlt : b < w.heap.size := (Array.getElem?_eq_some_iff.1 hb).1
  have h1 : Sep z (blk b ((putCells (Value.int .i64) 0 ys.toArray cs.toArray).toList) ty :: R) (putRow (Value.int .i64) (Go.Sort.ahead w n) b 0 ys.toArray) := by
    refine H.write 0 rfl rfl rfl rfl (o' := .cells (putCells (Value.int .i64) 0 ys.toArray cs.toArray) ty (0, 0)) ?_ ?_
    · show (w.heap.modify b _)[b]? = _
      rw [Array.getElem?_modify, if_pos rfl, hb]; rfl
    · intro k hk
      show (w.heap.modify b _)[k]? = _
      rw [Array.getElem?_modify, if_neg (Ne.symm hk)]
  refine h1.ext0 ⟨rfl, rfl, rfl, ?_, fun k hk _ => ?_⟩
  · show _ ≤ (_ ++ os : Array Obj).size
    simp
  · show (_ ++ os : Array Obj)[k]? = _
    rw [Array.getElem?_append_left hk]
theorem sort_c (v : Value) (zs : List Int) (hl : zs.length ≤ 1099511627776) : Cn Tryz.prog 126 [v] [grow 3 1 v zs.length (zs.map (Value.int .i64))]
    (fun u Γ => u = .tuple #[] ∧ ∃ ys : List Int, ys = zs.mergeSort (fun x y => decide (x ≤ y)) ∧ Γ = [grow 3 1 v ys.length (ys.map (Value.int .i64))]) := by
  intro z R w H
  have H : Sep z (grow 3 1 v zs.length (zs.map (Value.int .i64)) :: R) w := H
  rcases H.says 0 rfl (fun h q => q.form) with ⟨rfl, h0⟩ | ⟨b, c, rfl, hc⟩
  · obtain rfl : zs = [] := List.length_eq_zero_iff.1 h0
    refine (Go.Proofs.Any.slices_Sort_int_none laysSort none 0 w).mono ?_
    rintro e w' ⟨rfl, rfl⟩
    exact ⟨_, ⟨rfl, [], by simp, rfl⟩, H⟩
  · obtain ⟨⟨cap, cur⟩, ⟨hv, h1, h2, h3, h4⟩, H1⟩ := H.into (σ := Nat × List Value) (p := fun x => c = x.1 ∧ zs.length ≤ x.1 ∧ x.1 ≤ maxLen ∧ x.2.length = x.1 ∧ x.2.take zs.length = zs.map (Value.int .i64)) (As := fun x => [blk b x.2 3]) (fun h q => by
      rcases q.2 with ⟨q, _⟩ | ⟨g, cap, cur, hv, hg, hc, hm, hs, ht⟩
      · cases q
      · simp only [Value.slice.injEq, Option.some.injEq, Addr.mk.injEq, and_true, true_and] at hv
        obtain ⟨rfl, rfl⟩ := hv
        refine ⟨(c, cur.toList), ⟨rfl, hc, hm, by simpa using hs, by simpa using ht⟩, fun _ => 0, fun i A hi => ?_⟩
        cases i with
        | zero => simp at hi; subst hi; show Hp.part _ _ _ _ = _; unfold Hp.part; rw [if_pos rfl]; simpa using hg
        | succ i => simp at hi)
    dsimp only at hv h1 h2 h3 h4 H1
    subst hv
    have H1 : Sep z (blk b cur 3 :: R) w := H1
    have hb : w.heap[b]? = some (.cells cur.toArray 3 (0, 0)) := H1.blk 0 rfl
    have hlt : b < w.heap.size := (Array.getElem?_eq_some_iff.1 hb).1
    have hcur : ∀ j, j < zs.length → cur[j]? = some (.int .i64 zs[j]!) := fun j hj => by
      have : (cur.take zs.length)[j]? = (zs.map (Value.int .i64))[j]? := by rw [h4]
      rw [List.getElem?_take, if_pos hj, List.getElem?_map, List.getElem?_eq_getElem hj] at this
      rw [this, getElem!_pos zs j hj]; rfl
    have hH : Go.Sort.Holds (Value.int .i64) w b 0 zs.toArray := fun j hj => by
      have hj' : j < zs.length := by simpa using hj
      refine ⟨?_, ?_⟩
      · have := hcur j hj'
        simp [World.cell?, hb, this]
      · simp [World.frozen?, hb]
    refine (Go.Proofs.Any.slices_Sort_int laysSort b 0 c zs w hH hlt (by omega)).mono ?_
    rintro e w' ⟨rfl, n, os, rfl⟩
    have H2 := sort_sep (n := n) H1 (zs.mergeSort fun x y => decide (x ≤ y)) os
    have hml : (zs.mergeSort fun x y => decide (x ≤ y)).length = zs.length := List.length_mergeSort _
    refine ⟨_, ⟨rfl, _, rfl, rfl⟩, H2.mono 0 rfl (fun h q => ?_)⟩
    rw [hml]
    refine blk.grow q h1 (by unfold maxLen at h2; omega) ?_ ?_
    · simp [Go.Sort.putCells, h3]
    · apply List.ext_getElem?
      intro j
      rw [List.getElem?_take]
      simp only [Nat.mul_one]
      by_cases hj : j < zs.length
      · rw [if_pos hj]
        have hjc : j < cur.length := by omega
        have hjm : j < (zs.mergeSort fun x y => decide (x ≤ y)).length := by omega
        simp [Go.Sort.putCells, hjc, hjm, hj]
      · rw [if_neg hj, List.getElem?_eq_none (by simp; omega)]
end Go.Proofs.YtbegkbjigbkljaaGreatDoor
namespace Go.Proofs.YtbegkbjigbkljaaGreatDoor
open Go.RowKit
def stpK (l : List IE) : List IE → Value → List IE → Prop := fun s v s2 => ∃ p ∈ leftL l (s.map fun p : IE => p.2.2), v = .int .i64 p.1 ∧ s2 = s ++ [p]
def finK (l : List IE) : List IE → Prop := fun s => leftL l (s.map fun p : IE => p.2.2) = []
def kC (s : List IE) : List Value := s.map fun p => .int .i64 p.1
def vecA (b : Nat) (l s : List IE) : Asn := fun h => ((∀ p ∈ s, p ∈ l) ∧ (s.map fun p : IE => p.2.2).Nodup) ∧ ∃ v, seps [blk b [v] 45, grow 3 1 v s.length (kC s)] h
theorem Sep.vec {z w : World} {Γ : List Asn} {b : Nat} {l s : List IE} (H : Sep z (vecA b l s :: Γ) w) : ((∀ p ∈ s, p ∈ l) ∧ (s.map fun p : IE => p.2.2).Nodup) ∧ ∃ v, Sep z (YtbegkbjigbkljaaGreatDoor.blk b [v] 45 :: YtbegkbjigbkljaaGreatDoor.grow 3 1 v s.length (kC s) :: Γ) w := by
  obtain ⟨v, hp, H'⟩ := H.into (σ := Value) (p := fun _ => (∀ p ∈ s, p ∈ l) ∧ (s.map fun p : IE => p.2.2).Nodup) (As := fun v => [YtbegkbjigbkljaaGreatDoor.blk b [v] 45, YtbegkbjigbkljaaGreatDoor.grow 3 1 v s.length (kC s)]) (fun h q => by obtain ⟨q, v, hv⟩ := q; exact ⟨v, q, hv⟩)
  exact ⟨hp, v, H'⟩
theorem Sep.toVec {z w : World} {Γ : List Asn} {b : Nat} {l s : List IE} {v : Value} (H : Sep z (YtbegkbjigbkljaaGreatDoor.blk b [v] 45 :: YtbegkbjigbkljaaGreatDoor.grow 3 1 v s.length (kC s) :: Γ) w) (h1 : ∀ p ∈ s, p ∈ l) (h2 : (s.map fun p : IE => p.2.2).Nodup) : Sep z (vecA b l s :: Γ) w :=
  H.made 2 (A := vecA b l s) (fun h q => ⟨⟨h1, h2⟩, v, q⟩)
theorem kC_snoc (s : List IE) (p : IE) : kC s ++ [Value.int .i64 p.1] = kC (s ++ [p]) := by simp [kC]
theorem stamps_snoc {l s : List IE} {p : IE} (h1 : (∀ p ∈ s, p ∈ l) ∧ (s.map fun p : IE => p.2.2).Nodup) (hp : p ∈ leftL l (s.map fun p : IE => p.2.2)) : (∀ q ∈ s ++ [p], q ∈ l) ∧ ((s ++ [p]).map fun p : IE => p.2.2).Nodup := by
  obtain ⟨q1, q2⟩ := leftL_mem hp
  refine ⟨fun q hq => ?_, ?_⟩
  · rcases List.mem_append.1 hq with hq | hq
    · exact h1.1 q hq
    · simp at hq; subst hq; exact q1
  · rw [List.map_append, List.nodup_append]
    refine ⟨h1.2, by simp, fun a ha b hb => ?_⟩
    simp at hb; subst hb
    exact fun e => q2 (e ▸ ha)
theorem nodup_of_map {α β : Type} {f : α → β} {l : List α} (h : (l.map f).Nodup) : l.Nodup := (List.pairwise_map.1 h).imp fun h e => h (congrArg f e)
theorem len_sub {α : Type} : ∀ {s l : List α}, s.Nodup → (∀ p ∈ s, p ∈ l) → s.length ≤ l.length
  | [], _, _, _ => Nat.zero_le _
  | x :: s, l, hn, h => by
    obtain ⟨l1, l2, rfl⟩ := List.append_of_mem (h x (by simp))
    have hx := List.nodup_cons.1 hn
    have := len_sub (s := s) (l := l1 ++ l2) hx.2 fun p hp => by
      have := h p (by simp [hp])
      simp only [List.mem_append, List.mem_cons] at this ⊢
      rcases this with q | rfl | q
      · exact .inl q
      · exact absurd hp hx.1
      · exact .inr q
    simp only [List.length_append, List.length_cons] at this ⊢
    omega
theorem stamps_len {l s : List IE} (h : (∀ p ∈ s, p ∈ l) ∧ (s.map fun p : IE => p.2.2).Nodup) : s.length ≤ l.length := by
  have hs : s.Nodup := nodup_of_map h.2
  exact len_sub hs h.1
theorem stamps_perm {l s : List IE} (hn : (l.map fun p : IE => p.2.2).Nodup) (h : (∀ p ∈ s, p ∈ l) ∧ (s.map fun p : IE => p.2.2).Nodup) (hf : finK l s) : s.Perm l := by
  have hs : s.Nodup := nodup_of_map h.2
  have hl : l.Nodup := nodup_of_map hn
  refine (List.perm_ext_iff_of_nodup hs hl).2 fun p => ⟨h.1 p, fun hp => ?_⟩
  have : p.2.2 ∈ s.map fun p : IE => p.2.2 := by
    by_cases q : p.2.2 ∈ s.map fun p : IE => p.2.2
    · exact q
    · have : p ∈ leftL l (s.map fun p : IE => p.2.2) := by simpa [leftL] using ⟨hp, by simpa using q⟩
      rw [show leftL l (s.map fun p : IE => p.2.2) = [] from hf] at this
      cases this
  obtain ⟨q, hq, e⟩ := List.mem_map.1 this
  obtain ⟨i, hi, rfl⟩ := List.mem_iff_getElem.1 (h.1 q hq)
  obtain ⟨j, hj, rfl⟩ := List.mem_iff_getElem.1 hp
  obtain rfl := nodup_idx hn (List.getElem?_eq_getElem hi) (List.getElem?_eq_getElem hj) e
  exact hq
theorem dirty_ks {D : Dsk} {bs : List UInt8} {es : List Ent} {clk : Nat} {hq : Hp} {s : List IE} (hI : D.In bs es clk hq) (hs : s.Perm (es.map Ent.ie)) :
    ((s.map fun p : IE => p.1).mergeSort (fun x y => decide (x ≤ y))).Pairwise (· < ·) ∧ ∀ k : Int, k ∈ (s.map fun p : IE => p.1).mergeSort (fun x y => decide (x ≤ y)) ↔ 0 ≤ k ∧ k < D.n ∧ D.ver k.toNat ≠ [] := by
  have hp : ((s.map fun p : IE => p.1).mergeSort (fun x y => decide (x ≤ y))).Perm (es.map fun e : Ent => (e.key : Int)) := by
    refine (List.mergeSort_perm _ _).trans ?_
    have := hs.map (fun p : IE => p.1)
    rwa [List.map_map] at this
  have hnd : ((s.map fun p : IE => p.1).mergeSort (fun x y => decide (x ≤ y))).Nodup := by
    refine hp.symm.nodup ?_
    have h1 := List.pairwise_map.1 hI.nodup
    exact List.pairwise_map.2 (h1.imp fun h e => h (by omega))
  refine ⟨?_, fun k => ?_⟩
  · have hso : ((s.map fun p : IE => p.1).mergeSort (fun x y => decide (x ≤ y))).Pairwise (fun x y => decide (x ≤ y) = true) := List.pairwise_mergeSort (fun a b c h1 h2 => by simp at *; omega) (fun a b => by simp; omega) _
    exact (hso.and hnd).imp fun h => by have h1 := h.1; have h2 := h.2; simp at h1; omega
  · rw [hp.mem_iff, List.mem_map]
    constructor
    · rintro ⟨e, he, rfl⟩
      obtain ⟨h1, h2, h3⟩ := hI.ent e he
      refine ⟨by omega, by omega, ?_⟩
      rw [Int.toNat_natCast, ← h2]; exact h3.2.1
    · rintro ⟨h1, h2, h3⟩
      obtain ⟨e, he, hk⟩ := hI.all k.toNat (by omega) h3
      exact ⟨e, he, by omega⟩
theorem keys_it (bb m clk : Nat) (l : List IE) (hold : ∀ p ∈ l, p.2.2 < clk) (hn : (l.map fun p : IE => p.2.2).Nodup) : ItG Tryz.prog 133 [.pointer (some ⟨bb, 0, none⟩)] [blk bb [.map (some m)] 118, mapB m l clk] (stpK l) [] (finK l) := by
  intro z l_ J hY w H'
  have H := H'.l2; clear H'
  refine it_enter (args := [.func (.yield l_) #[] #[], .pointer (some ⟨bb, 0, none⟩)]) Tryz.func133 rfl rfl 14 Tryz.ntmps133 rfl ?_
  refine rk_seq ?_
  refine rs_region ?_
  refine s_do rfl rfl rfl (d_load rfl rfl (by kernel_rfl) (here (H.cel 0 rfl 0 rfl))) ?_
  refine s_go rfl rfl rfl (n_range 1 (e := 82) H rfl rfl (by kernel_rfl) rfl) ?_
  rintro _ w ⟨rr, rfl, H'⟩
  have H := H'.l3; clear H'
  refine s_end ?_
  refine rk_block ?_
  refine rc_loop (σ := List IE) (fun s => [(0, .func (.yield l_) #[] #[]), (5, .pointer (some ⟨rr, 0, none⟩))])
    (fun s w => Sep z (itB rr m clk (s.map fun p : IE => p.2.2) :: blk bb [.map (some m)] 118 :: mapB m l clk :: J s) w ∧ (True)) (fun s => (leftL l (s.map fun p : IE => p.2.2)).length) ([])
    (fun _ hF => (hF.all rfl)) ⟨H, trivial⟩ ?_
  clear H; rintro s w ⟨H', hI⟩
  have H := H'.l3; clear H'
  refine rk_seq ?_
  refine rs_region ?_
  refine s_go rfl rfl rfl (n_next 0 2 H rfl rfl rfl rfl hold) ?_
  rintro _ w ⟨qx, rfl, hqx, H'⟩
  have H := H'.l3; clear H'
  refine s_do rfl rfl rfl (d_nx0 rfl rfl) ?_
  refine s_end ?_
  refine rk_seq ?_
  refine rk_cond rfl (fun h1 => ?_) (fun h1 => ?_)
  · -- yes: qx.isSome
    obtain ⟨p1, rfl⟩ := Option.isSome_iff_exists.1 h1
    refine rk_skip ?_
    refine rk_block ?_
    refine rk_seq ?_
    refine rs_region ?_
    refine s_do rfl rfl rfl (d_entry (p := p1) rfl rfl (here ⟨H.bk 0 rfl, H.bk 2 rfl⟩) (leftL_mem hqx).1 hn) ?_
    refine s_do rfl rfl rfl (d_extract rfl rfl rfl) ?_
    refine s_do rfl rfl rfl (d_assign rfl rfl) ?_
    refine s_end ?_
    refine rk_seq ?_
    refine i_region ?_
    refine i_do rfl rfl rfl (d_move rfl rfl) ?_
    refine i_do rfl rfl rfl (d_move rfl rfl) ?_
    replace H := H.f2.f2
    refine i_yield rfl rfl rfl rfl rfl rfl (hY s _ (s ++ [p1]) [itB rr m clk ((s.map fun p : IE => p.2.2) ++ [p1.2.2])] ⟨p1, hqx, rfl, rfl⟩ _ H) ?_
    rintro _ w ⟨rfl, H'⟩
    refine ⟨_, rfl, ?_⟩
    have H := H'.l3; clear H'
    refine i_do rfl rfl rfl (d_not rfl rfl) ?_
    refine i_end ?_
    refine rk_false rfl ?_
    refine rk_skip ?_
    replace H := H.f1.f1.f2
    intro _ hF
    refine ⟨(s ++ [p1]), (hF.all rfl), ⟨(by rw [List.map_append]; exact H), ?_⟩, ?_⟩
    · trivial
    · (have := leftL_less hqx; rwa [show (s ++ [p1]).map (fun p : IE => p.2.2) = (s.map fun p : IE => p.2.2) ++ [p1.2.2] from by simp])
  · -- no: qx.isSome
    obtain rfl : qx = none := by simpa using h1
    refine rk_exit ?_
    refine k_here ?_
    exact fun _ hF => ⟨hF.defers, s, hqx, H.perm 3 [1, 2] rfl rfl⟩
theorem appendSeq_c (bb m clk : Nat) (l : List IE) (hold : ∀ p ∈ l, p.2.2 < clk) (hn : (l.map fun p : IE => p.2.2).Nodup) (hll : l.length ≤ 1099511627776) : Cn Tryz.prog 146 [.slice none 0 0, .func (.func 133) #[] #[.pointer (some ⟨bb, 0, none⟩)]] [blk bb [.map (some m)] 118, mapB m l clk] (fun v Γ => ∃ s : List IE, s.Perm l ∧ Γ = [blk bb [.map (some m)] 118, mapB m l clk, grow 3 1 v s.length (kC s)]) := by
 intro z R w H'; have H : Sep z (blk bb [.map (some m)] 118 :: mapB m l clk :: R) w := H'
 clear H'; refine enterM Tryz.func146 rfl 13 Tryz.ntmps146 rfl (k_seq (s_region (s_go rfl rfl rfl (n_box H rfl rfl (cs := [.slice none 0 0]) rfl) ?_))); rintro _ w ⟨b1, rfl, H'⟩; have H := H'.l3; clear H'; refine s_M 1 rfl rfl (s_end (k_seq (k_seq (s_region (s_M 1 rfl rfl (s_end (k_block ?_))))))); have H' := H.nilg 3 1
 have H := H'.l4; clear H'; replace H := H.f1; have H' := H.toVec (l := l) (s := []) (by simp) (by simp)
 have H := H'.l3; clear H'; replace H := H.f2.f2; have H' := Sep.swap (As := [blk bb [.map (some m)] 118, mapB m l clk]) (Bs := (vecA b1 l [] :: R)) H; clear H
 refine k_rangeG (fun s => (vecA b1 l s :: R)) rfl (fun u w => Tryz.call133 u w) rfl (keys_it bb m clk l hold hn) H' ?_ ?_
 ·rintro ro s v s2 ⟨p, hp, rfl, rfl⟩ w; refine rs_region (s_M 1 rfl rfl (s_end ?_)); refine fun a hF => ⟨rfl, fun F w H' => ?_⟩
  revert a hF; have H := H'.l1; clear H'; obtain ⟨hps, v1, H'⟩ := H.vec; clear H; have H := H'.l2; clear H'; have sv1 := H.says 1 rfl (fun h q => q.slc)
  have hsl := stamps_len hps
  refine rk_block (rs_region (s_L 2 [0] (mm1 (H.blk 0 rfl) mm0) rfl (by kernel_rfl) rfl (s_go rfl rfl rfl (n_buildSlice H rfl (by kernel_rfl) (Elt.mk (P := Tryz.prog) (e := 3) (z := .int .i64 0) (sz := 1) (by_ := 8) (by kernel_rfl) rfl (by omega) (by omega)) rfl (by decide) (by decide) (out := [.int .i64 p.1]) (by kernel_rfl)) ?_))); rintro _ w ⟨b2, rfl, H'⟩; have H := H'.l3; clear H'; refine s_go rfl rfl rfl (n_append 2 H rfl rfl (by kernel_rfl) (Elt.mk (P := Tryz.prog) (e := 3) (z := .int .i64 0) (sz := 1) (by_ := 8) (by kernel_rfl) rfl (by omega) (by omega)) rfl rfl (H.rd 0 rfl (fun h q => q.rd (by omega) (by omega) (by simp) rfl)) (by simp [Value.oneCell']) (by omega)) ?_; rintro v3 w H'; have H' : Sep z (blk b2 [.int .i64 p.1] 3 :: blk b1 [v1] 45 :: grow 3 1 v3 (s.length + 1) (kC s ++ [.int .i64 p.1]) :: (R ++ F)) w := H'
  have ev3 : (kC s ++ [.int .i64 p.1] : List Value) = kC (s ++ [p]) := kC_snoc s p
  rw [ev3] at H'; rw [show (s.length + 1 : Nat) = (s ++ [p]).length from by simp] at H'; have H := H'.l3; clear H'; have sv3 := H.says 2 rfl (fun h q => q.slc)
  refine s_put rfl rfl (n_store 1 H rfl rfl rfl rfl (vs := [v3]) sv3.cells (one_cons sv3.one one_nil) (by kernel_rfl) (by simp) (out := [v3]) rfl) ?_; rintro w H'; have H := H'.l3; clear H'; refine s_end ?_; replace H := H.d; have hp2 := stamps_snoc hps hp
  exact fun _ _ => H.toVec hp2.1 hp2.2
 ·rintro D0 w s hfin H'; have H := H'.l2; clear H'; replace H := H.f1; obtain ⟨hps, v1, H'⟩ := H.vec; clear H; have H := H'.l3; clear H'; have sv1 := H.says 1 rfl (fun h q => q.slc)
  refine k_seq (s_region (s_L 2 [0] (mm1 (H.blk 0 rfl) mm0) rfl (by kernel_rfl) rfl (s_end (k_ret ?_)))); replace H := H.f2; refine doneM1 H (rs := [.tmp 4]) rfl [v1] (fun _ => ⟨rfl, trivial⟩) (v := v1) rfl (fun w H' => ?_); clear H; have H := H'.l2; clear H'; have H' := Sep.swap (As := grow 3 1 v1 s.length (kC s) :: R) (Bs := [blk bb [.map (some m)] 118, mapB m l clk]) (H.pick 2 [1] rfl)
  exact ⟨[blk bb [.map (some m)] 118, mapB m l clk, grow 3 1 v1 s.length (kC s)], ⟨s, stamps_perm hn hps hfin, rfl⟩, H'⟩
theorem keys_c (m : Nat) : Cn Tryz.prog 103 [.map (some m)] [] (fun v Γ => ∃ bb, v = .func (.func 133) #[] #[.pointer (some ⟨bb, 0, none⟩)] ∧ Γ = [blk bb [.map (some m)] 118]) := by
 intro z R w H'; have H : Sep z (R) w := H'
 clear H'; refine enter Tryz.func103 rfl 4 Tryz.ntmps103 rfl (k_seq (s_region (s_go rfl rfl rfl (n_box H rfl rfl (cs := [.map (some m)]) rfl) ?_))); rintro _ w ⟨b1, rfl, H'⟩; have H := H'.l1; clear H'; refine s_M 1 rfl rfl (s_end (k_seq (s_region (s_do rfl rfl rfl (d_makeFunc rfl rfl rfl) (s_M 1 rfl rfl (s_end (k_ret (doneL rfl [.func (.func 133) #[] #[.pointer (some ⟨b1, 0, none⟩)]] ⟨rfl, trivial⟩ (v := .func (.func 133) #[] #[.pointer (some ⟨b1, 0, none⟩)]) rfl ?_)))))))); exact ⟨[blk b1 [.map (some m)] 118], ⟨b1, rfl, rfl⟩, H⟩
theorem collect_c (bb m clk : Nat) (l : List IE) (hold : ∀ p ∈ l, p.2.2 < clk) (hn : (l.map fun p : IE => p.2.2).Nodup) (hll : l.length ≤ 1099511627776) : Cn Tryz.prog 125 [.func (.func 133) #[] #[.pointer (some ⟨bb, 0, none⟩)]] [blk bb [.map (some m)] 118, mapB m l clk] (fun v Γ => ∃ s : List IE, s.Perm l ∧ Γ = [blk bb [.map (some m)] 118, mapB m l clk, grow 3 1 v s.length (kC s)]) := by
 intro z R w H'; have H : Sep z (blk bb [.map (some m)] 118 :: mapB m l clk :: R) w := H'
 clear H'; refine enter Tryz.func125 rfl 5 Tryz.ntmps125 rfl (k_seq (s_region (s_M 1 rfl rfl (s_end (k_seq (s_region (s_M 1 rfl rfl (s_C rfl rfl rfl rfl rfl (fun w => Tryz.call146 _ w) (appendSeq_c _ _ _ _ hold hn hll) H rfl ?_)))))))); rintro v2 w _ ⟨s, hs, rfl⟩ H'; have H := H'.l3; clear H'; have sv2 := H.says 2 rfl (fun h q => q.slc)
 refine s_M 1 rfl rfl (s_end (k_ret (doneL rfl [v2] ⟨rfl, trivial⟩ (v := v2) rfl ?_))); exact ⟨[blk bb [.map (some m)] 118, mapB m l clk, grow 3 1 v2 s.length (kC s)], ⟨s, hs, rfl⟩, H⟩
theorem sorted_c (bb m clk : Nat) (l : List IE) (hold : ∀ p ∈ l, p.2.2 < clk) (hn : (l.map fun p : IE => p.2.2).Nodup) (hll : l.length ≤ 1099511627776) : Cn Tryz.prog 90 [.func (.func 133) #[] #[.pointer (some ⟨bb, 0, none⟩)]] [blk bb [.map (some m)] 118, mapB m l clk] (fun v Γ => ∃ s : List IE, s.Perm l ∧ Γ = [grow 3 1 v ((s.map fun p : IE => p.1).mergeSort (fun x y => decide (x ≤ y))).length (((s.map fun p : IE => p.1).mergeSort (fun x y => decide (x ≤ y))).map (Value.int .i64)), blk bb [.map (some m)] 118, mapB m l clk]) := by
 intro z R w H'; have H : Sep z (blk bb [.map (some m)] 118 :: mapB m l clk :: R) w := H'
 clear H'; refine enter Tryz.func90 rfl 9 Tryz.ntmps90 rfl (k_seq (s_region (s_M 1 rfl rfl (s_end (k_seq (s_region (s_M 1 rfl rfl (s_C rfl rfl rfl rfl rfl (fun w => Tryz.call125 _ w) (collect_c _ _ _ _ hold hn hll) H rfl ?_)))))))); rintro v2 w _ ⟨s, hs, rfl⟩ H'; have H := H'.l3; clear H'; have sv2 := H.says 2 rfl (fun h q => q.slc)
 refine s_M 1 rfl rfl (s_end (k_seq (s_region (s_M 1 rfl rfl ?_)))); have hsl : (s.map fun p : IE => p.1).length = s.length := by simp
 have hsp := hs.length_eq
 have H' := H.mono 2 (B := grow 3 1 v2 (s.map fun p : IE => p.1).length ((s.map fun p : IE => p.1).map (Value.int .i64))) rfl (fun h q => by rw [hsl, List.map_map]; exact q)
 have H := H'.l3; clear H'; refine s_C rfl rfl rfl rfl rfl (fun w => Tryz.call126 _ w) (sort_c _ _ (by omega)) H.f2 rfl ?_; rintro _ w _ ⟨rfl, ys, rfl, rfl⟩ H'; have H := H'.l3; clear H'; refine s_end (k_seq (s_region (s_M 2 rfl rfl (s_end (k_ret (doneL rfl [v2] ⟨rfl, trivial⟩ (v := v2) rfl ?_)))))); exact ⟨[grow 3 1 v2 (((s.map fun p : IE => p.1).mergeSort (fun x y => decide (x ≤ y))).length) (((s.map fun p : IE => p.1).mergeSort (fun x y => decide (x ≤ y))).map (Value.int .i64)), blk bb [.map (some m)] 118, mapB m l clk], ⟨s, hs, rfl⟩, H⟩
theorem dirty_c (pd : Nat) (D : Dsk) : Cn Tryz.prog 61 [.pointer (some ⟨pd, 0, none⟩)] [diskA pd D] (fun v Γ => ∃ ks : List Int, (ks.Pairwise (· < ·) ∧ ∀ k : Int, k ∈ ks ↔ 0 ≤ k ∧ k < D.n ∧ D.ver k.toNat ≠ []) ∧ Γ = [grow 3 1 v ks.length (ks.map (Value.int .i64)), diskA pd D]) := by
 intro z R w H'; have H : Sep z (diskA pd D :: R) w := H'
 clear H'; obtain ⟨bd, m, f0, bs, es, clk, hq, hD, hIn, H'⟩ := H.disk; clear H; have hn1 := hD.n1; have hn2 := hD.n2; have hf1 := hD.f1; have hf2 := hD.f2; have hf3 := hD.f3; have hlf := hD.left; have hbl := hIn.len
 have H := H'.l5; clear H'; refine enter Tryz.func61 rfl 9 Tryz.ntmps61 rfl (k_seq (s_region (s_M 1 rfl rfl (s_end (k_seq (s_region (s_L 4 [1, 0] (mm1 (H.blk 0 rfl) mm0) rfl (by kernel_rfl) rfl (s_C rfl rfl rfl rfl rfl (fun w => Tryz.call103 _ w) (keys_c _) H rfl ?_)))))))); rintro _ w _ ⟨bb, rfl, rfl⟩ H'; have H := H'.l6; clear H'; have hmm : ∀ f : IE → Nat, (es.map Ent.ie).map f = es.map fun e => f e.ie := fun f => by simp
 have hel : es.length ≤ D.n := by
   have := len_sub (s := es.map Ent.key) (l := List.range D.n) hIn.nodup (fun k hk => by obtain ⟨e, he, rfl⟩ := List.mem_map.1 hk; exact List.mem_range.2 (hIn.ent e he).1)
   simpa using this
 have hn2 := hD.n2
 refine s_C rfl rfl rfl rfl rfl (fun w => Tryz.call90 _ w) (sorted_c _ _ _ _ (fun p hp => by obtain ⟨e, he, rfl⟩ := List.mem_map.1 hp; exact hIn.clk e he) (by rw [hmm]; exact hIn.born) (by simp; omega)) H.f3.f1 rfl ?_; rintro v2 w _ ⟨s, hs, rfl⟩ H'; have H := H'.l7; clear H'; refine s_M 1 rfl rfl (s_end (k_ret (doneL rfl [v2] ⟨rfl, trivial⟩ (v := v2) rfl ?_))); have hks := dirty_ks hIn hs
 replace H := H.f6.f6.f4.f6.f6; have H' := Sep.toDisk (D := D) (pd := pd) (bd := bd) (m := m) (f0 := f0) (bs := bs) (es := es) (clk := clk) (hq := hq) (Γ := grow 3 1 v2 (((s.map fun p : IE => p.1).mergeSort (fun x y => decide (x ≤ y))).length) (((s.map fun p : IE => p.1).mergeSort (fun x y => decide (x ≤ y))).map (Value.int .i64)) :: blk bb [.map (some m)] 118 :: R) H hD hIn
 have H := H'.l3; clear H'; exact ⟨[grow 3 1 v2 (((s.map fun p : IE => p.1).mergeSort (fun x y => decide (x ≤ y))).length) (((s.map fun p : IE => p.1).mergeSort (fun x y => decide (x ≤ y))).map (Value.int .i64)), diskA pd D], ⟨_, hks, rfl⟩, H.perm 3 [1, 0] rfl rfl⟩
end Go.Proofs.YtbegkbjigbkljaaGreatDoor
namespace Go.Proofs.YtbegkbjigbkljaaGreatDoor
open Go.RowKit
structure PgE where
  n : Nat
  pg : Pg
  v : Value
  born : Nat
def PgE.ie (e : PgE) : IE := ((e.n : Int), .agg #[.int .i64 e.pg.kind, e.v], e.born)
structure PgsIn (f : Pgs) (es : List PgE) (clk : Nat) (hq : Hp) : Prop where
  ent : ∀ e ∈ es, f e.n = some e.pg ∧ e.pg.Ok ∧ rdH 1 e.v 240 (e.pg.body.map u8) hq
  all : ∀ n p, f n = some p → ∃ e ∈ es, e.n = n
  nodup : (es.map PgE.n).Nodup
  born : (es.map PgE.born).Nodup
  clk : ∀ e ∈ es, e.born < clk
def pgsA (m : Nat) (f : Pgs) (hq : Hp) : Asn := fun h => ∃ es clk, PgsIn f es clk hq ∧ mapB m (es.map PgE.ie) clk h
theorem Sep.pgs {z w : World} {Γ : List Asn} (i : Nat) {m : Nat} {f : Pgs} {hq : Hp} (H : Sep z Γ w) (hi : Γ[i]? = some (pgsA m f hq)) : ∃ es clk, PgsIn f es clk hq ∧ Sep z (Γ.set i (mapB m (es.map PgE.ie) clk)) w := by
  obtain ⟨x, hp, H'⟩ := H.exAt i (σ := List PgE × Nat) (p := fun x => PgsIn f x.1 x.2 hq) (B := fun x => mapB m (x.1.map PgE.ie) x.2) hi (fun h ⟨es, clk, h1, h2⟩ => ⟨(es, clk), h1, h2⟩)
  exact ⟨x.1, x.2, hp, H'⟩
theorem Sep.toPgs {z w : World} {Γ : List Asn} (i : Nat) {m : Nat} {es : List PgE} {clk : Nat} {f : Pgs} {hq : Hp} (H : Sep z Γ w) (hi : Γ[i]? = some (mapB m (es.map PgE.ie) clk)) (hp : PgsIn f es clk hq) : Sep z (Γ.set i (pgsA m f hq)) w := H.mono i hi fun h q => ⟨es, clk, hp, q⟩
def pgsC (m : Nat) (f : Pgs) (k : Nat) (hq : Hp) : Asn := fun h => ∃ es clk, PgsIn f es clk hq ∧ es.length = k ∧ mapB m (es.map PgE.ie) clk h
theorem Sep.pgsc {z w : World} {Γ : List Asn} (i : Nat) {m k : Nat} {f : Pgs} {hq : Hp} (H : Sep z Γ w) (hi : Γ[i]? = some (pgsC m f k hq)) : ∃ es clk, PgsIn f es clk hq ∧ es.length = k ∧ Sep z (Γ.set i (mapB m (es.map PgE.ie) clk)) w := by
  obtain ⟨x, hp, H'⟩ := H.exAt i (σ := List PgE × Nat) (p := fun x => PgsIn f x.1 x.2 hq ∧ x.1.length = k) (B := fun x => mapB m (x.1.map PgE.ie) x.2) hi (fun h ⟨es, clk, h1, h2, h3⟩ => ⟨(es, clk), ⟨h1, h2⟩, h3⟩)
  exact ⟨x.1, x.2, hp.1, hp.2, H'⟩
theorem Sep.toPgsc {z w : World} {Γ : List Asn} (i : Nat) {m k : Nat} {es : List PgE} {clk : Nat} {f : Pgs} {hq : Hp} (H : Sep z Γ w) (hi : Γ[i]? = some (mapB m (es.map PgE.ie) clk)) (hp : PgsIn f es clk hq) (hk : es.length = k) : Sep z (Γ.set i (pgsC m f k hq)) w := H.mono i hi fun h q => ⟨es, clk, hp, hk, q⟩
theorem PgsIn.le {f : Pgs} {es : List PgE} {clk : Nat} {hq hq' : Hp} (h : PgsIn f es clk hq) (s : subH hq hq') : PgsIn f es clk hq' := ⟨fun e he => ⟨(h.ent e he).1, (h.ent e he).2.1, (h.ent e he).2.2.le s⟩, h.all, h.nodup, h.born, h.clk⟩
theorem pgsA.le {m : Nat} {f : Pgs} {hq hq' : Hp} (s : subH hq hq') : ∀ h, pgsA m f hq h → pgsA m f hq' h := fun _ ⟨es, clk, h1, h2⟩ => ⟨es, clk, h1.le s, h2⟩
theorem pgsC.le {m k : Nat} {f : Pgs} {hq hq' : Hp} (s : subH hq hq') : ∀ h, pgsC m f k hq h → pgsC m f k hq' h := fun _ ⟨es, clk, h1, h2, h3⟩ => ⟨es, clk, h1.le s, h2, h3⟩
theorem PgsIn.none (hq : Hp) (clk : Nat) : PgsIn noPgs [] clk hq := ⟨fun e he => (by cases he), fun n p h => (by cases h), by simp, by simp, fun e he => (by cases he)⟩
theorem PgsIn.get {f : Pgs} {es : List PgE} {clk : Nat} {hq : Hp} (h : PgsIn f es clk hq) (n : Nat) : (f n = Option.none ∧ getM (es.map PgE.ie) (n : Int) = Option.none) ∨ ∃ (p : Pg) (v : Value), f n = some p ∧ p.Ok ∧ rdH 1 v 240 (p.body.map u8) hq ∧ getM (es.map PgE.ie) (n : Int) = some (.agg #[.int .i64 p.kind, v]) := by
  have key : ∀ l : List PgE, (∀ e ∈ l, e ∈ es) → ((∀ e ∈ l, e.n ≠ n) ∧ getM (l.map PgE.ie) (n : Int) = Option.none) ∨ ∃ e ∈ es, e.n = n ∧ getM (l.map PgE.ie) (n : Int) = some (.agg #[.int .i64 e.pg.kind, e.v]) := by
    intro l
    induction l with
    | nil => intro _; exact .inl ⟨fun e he => (by cases he), rfl⟩
    | cons e l ih =>
      intro hl
      simp only [List.map_cons, PgE.ie, getM]
      by_cases q : (n : Int) = (e.n : Int)
      · exact .inr ⟨e, hl e (by simp), by omega, by rw [if_pos q]⟩
      · rw [if_neg q]
        rcases ih (fun e he => hl e (by simp [he])) with ⟨h1, h2⟩ | h1
        · refine .inl ⟨fun e' he => ?_, h2⟩
          rcases List.mem_cons.1 he with rfl | he
          · omega
          · exact h1 e' he
        · exact .inr h1
  rcases key es (fun _ h => h) with ⟨h1, h2⟩ | ⟨e, he, hn, hg⟩
  · refine .inl ⟨?_, h2⟩
    cases hf : f n with
    | none => rfl
    | some p =>
      obtain ⟨e, he, hn⟩ := h.all n p hf
      exact absurd hn (h1 e he)
  · subst hn
    obtain ⟨a, b, c⟩ := h.ent e he
    exact .inr ⟨e.pg, e.v, a, b, c, hg⟩
theorem PgsIn.has {f : Pgs} {es : List PgE} {clk : Nat} {hq : Hp} (h : PgsIn f es clk hq) (n : Nat) : hasM (es.map PgE.ie) (n : Int) = (f n).isSome := by
  unfold hasM
  rcases h.get n with ⟨h1, h2⟩ | ⟨p, v, h1, _, _, h2⟩ <;> rw [h1, h2] <;> rfl
theorem upd_pgs (es : List PgE) (k : Nat) (p : Pg) (v : Value) : updM (es.map PgE.ie) (k : Int) (.agg #[.int .i64 p.kind, v]) = (es.map fun e => if e.n = k then { e with pg := p, v := v } else e).map PgE.ie ∨ ¬ (es.map PgE.n).Nodup := by
  induction es with
  | nil => exact .inl rfl
  | cons e es ih =>
    by_cases hn : ((e :: es).map PgE.n).Nodup
    · left
      have hn' := hn
      simp only [List.map_cons, List.nodup_cons] at hn'
      by_cases q : (k : Int) = (e.n : Int)
      · have hk : e.n = k := by omega
        have hrest : (es.map fun e => if e.n = k then { e with pg := p, v := v } else e) = es := by
          conv => rhs; rw [← List.map_id es]
          exact List.map_congr_left fun e' he' => by
            rw [if_neg]; rfl
            intro e2
            exact hn'.1 (List.mem_map.2 ⟨e', he', by omega⟩)
        simp only [List.map_cons, PgE.ie, updM, if_pos q, if_pos hk]
        rw [hrest]; subst hk; rfl
      · have hk : ¬ e.n = k := by omega
        simp only [List.map_cons, PgE.ie, updM, if_neg q, if_neg hk]
        rcases ih with ih | ih
        · congr 1
        · exact absurd hn'.2 ih
    · exact .inr hn
theorem PgsIn.put {f : Pgs} {es : List PgE} {clk : Nat} {hq : Hp} (h : PgsIn f es clk hq) {k : Nat} {p : Pg} {v : Value} (hp : p.Ok) (hv : rdH 1 v 240 (p.body.map u8) hq) : ∃ es2, putM (es.map PgE.ie) (k : Int) (.agg #[.int .i64 p.kind, v]) clk = es2.map PgE.ie ∧ PgsIn (pgSet f k p) es2 (putC (es.map PgE.ie) (k : Int) clk) hq ∧ es2.length = es.length + (if (f k).isSome then 0 else 1) := by
  have hh := h.has k
  unfold putM putC
  cases hs : (f k).isSome with
  | true =>
    rw [hs] at hh
    rw [hh, if_pos rfl, if_pos rfl]
    rcases upd_pgs es k p v with e | e
    · refine ⟨_, e, ⟨fun e' he' => ?_, fun n q hq' => ?_, ?_, ?_, fun e' he' => ?_⟩, by simp⟩
      · obtain ⟨e0, h0, rfl⟩ := List.mem_map.1 he'
        obtain ⟨a, b, c⟩ := h.ent e0 h0
        by_cases g : e0.n = k
        · rw [if_pos g]; exact ⟨by unfold pgSet; rw [if_pos g], hp, hv⟩
        · rw [if_neg g]; exact ⟨by unfold pgSet; rw [if_neg g]; exact a, b, c⟩
      · unfold pgSet at hq'
        have : ∃ e0 ∈ es, e0.n = n := by
          split at hq'
          · rename_i g; subst g
            obtain ⟨p0, hp0⟩ := Option.isSome_iff_exists.1 hs
            exact h.all n p0 hp0
          · exact h.all n q hq'
        obtain ⟨e0, h0, hn⟩ := this
        exact ⟨_, List.mem_map_of_mem h0, by split <;> exact hn⟩
      · rw [List.map_map]
        rw [show (PgE.n ∘ fun e => if e.n = k then { e with pg := p, v := v } else e) = PgE.n from by funext e; simp only [Function.comp_apply]; split <;> rfl]
        exact h.nodup
      · rw [List.map_map]
        rw [show (PgE.born ∘ fun e => if e.n = k then { e with pg := p, v := v } else e) = PgE.born from by funext e; simp only [Function.comp_apply]; split <;> rfl]
        exact h.born
      · obtain ⟨e0, h0, rfl⟩ := List.mem_map.1 he'
        have := h.clk e0 h0
        split <;> exact this
    · exact absurd h.nodup e
  | false =>
    rw [hs] at hh
    rw [hh]
    simp only [Bool.false_eq_true, if_false]
    have hnone : f k = Option.none := by simpa using hs
    refine ⟨es ++ [⟨k, p, v, clk⟩], by simp [PgE.ie], ⟨fun e' he' => ?_, fun n q hq' => ?_, ?_, ?_, fun e' he' => ?_⟩, by simp⟩
    · rcases List.mem_append.1 he' with g | g
      · obtain ⟨a, b, c⟩ := h.ent e' g
        have : e'.n ≠ k := fun e => by rw [e, hnone] at a; cases a
        exact ⟨by unfold pgSet; rw [if_neg this]; exact a, b, c⟩
      · simp at g; subst g; exact ⟨by simp [pgSet], hp, hv⟩
    · unfold pgSet at hq'
      split at hq'
      · rename_i g; exact ⟨⟨k, p, v, clk⟩, by simp, g.symm⟩
      · obtain ⟨e0, h0, hn⟩ := h.all n q hq'
        exact ⟨e0, by simp [h0], hn⟩
    · rw [List.map_append, List.nodup_append]
      refine ⟨h.nodup, by simp, fun a ha b hb => ?_⟩
      simp at hb; subst hb
      obtain ⟨e0, h0, rfl⟩ := List.mem_map.1 ha
      intro e
      have := (h.ent e0 h0).1
      rw [e, hnone] at this; cases this
    · rw [List.map_append, List.nodup_append]
      refine ⟨h.born, by simp, fun a ha b hb => ?_⟩
      simp at hb; subst hb
      obtain ⟨e0, h0, rfl⟩ := List.mem_map.1 ha
      have := h.clk e0 h0
      omega
    · rcases List.mem_append.1 he' with g | g
      · have := h.clk e' g; omega
      · simp at g; subst g; simp
theorem PgsIn.keys {f : Pgs} {es : List PgE} {clk : Nat} {hq : Hp} {s : List IE} (h : PgsIn f es clk hq) (hs : s.Perm (es.map PgE.ie)) :
    ((s.map fun p : IE => p.1).mergeSort (fun x y => decide (x ≤ y))).Pairwise (· < ·) ∧ ∀ k : Int, k ∈ (s.map fun p : IE => p.1).mergeSort (fun x y => decide (x ≤ y)) ↔ 0 ≤ k ∧ (f k.toNat).isSome = true := by
  have hp : ((s.map fun p : IE => p.1).mergeSort (fun x y => decide (x ≤ y))).Perm (es.map fun e : PgE => (e.n : Int)) := by
    refine (List.mergeSort_perm _ _).trans ?_
    have := hs.map (fun p : IE => p.1)
    rwa [List.map_map] at this
  have hnd : ((s.map fun p : IE => p.1).mergeSort (fun x y => decide (x ≤ y))).Nodup := by
    refine hp.symm.nodup ?_
    have h1 := List.pairwise_map.1 h.nodup
    exact List.pairwise_map.2 (h1.imp fun h e => h (by omega))
  refine ⟨?_, fun k => ?_⟩
  · have hso : ((s.map fun p : IE => p.1).mergeSort (fun x y => decide (x ≤ y))).Pairwise (fun x y => decide (x ≤ y) = true) := List.pairwise_mergeSort (fun a b c h1 h2 => by simp at *; omega) (fun a b => by simp; omega) _
    exact (hso.and hnd).imp fun h => by have h1 := h.1; have h2 := h.2; simp at h1; omega
  · rw [hp.mem_iff, List.mem_map]
    constructor
    · rintro ⟨e, he, rfl⟩
      exact ⟨by omega, by rw [Int.toNat_natCast, (h.ent e he).1]; rfl⟩
    · rintro ⟨h1, h2⟩
      obtain ⟨p, hp⟩ := Option.isSome_iff_exists.1 h2
      obtain ⟨e, he, hk⟩ := h.all _ p hp
      exact ⟨e, he, by omega⟩
end Go.Proofs.YtbegkbjigbkljaaGreatDoor
namespace Go.Proofs.YtbegkbjigbkljaaGreatDoor
open Go.RowKit
theorem beq_c (v1 v2 : Value) (l m_ : List UInt8) (A B : Asn) (hA : ∀ h, A h → rdH 1 v1 l.length (l.map u8) h) (hB : ∀ h, B h → rdH 1 v2 m_.length (m_.map u8) h) : Cn Tryz.prog 98 [v1, v2] [A, B] (fun v Γ => v = .bool (decide (l = m_)) ∧ Γ = [A, B]) := by
 intro z R w H'; have H : Sep z (A :: B :: R) w := H'
 clear H'; refine enter Tryz.func98 rfl 10 Tryz.ntmps98 rfl (k_seq (s_region (s_M 1 rfl rfl (s_end (k_seq (s_region (s_M 1 rfl rfl (s_do rfl rfl rfl (d_bytesStr (l := l) rfl (by kernel_rfl) (by kernel_rfl) rfl (here (H.rd 0 rfl hA))) (s_M 1 rfl rfl (s_do rfl rfl rfl (d_bytesStr (l := m_) rfl (by kernel_rfl) (by kernel_rfl) rfl (here (H.rd 1 rfl hB))) (s_do rfl rfl rfl (d_eqlS rfl (by kernel_rfl) rfl rfl) (s_M 1 rfl rfl (s_end ?_))))))))))))); refine k_ret (doneL rfl [.bool (decide (l = m_))] ⟨rfl, trivial⟩ (v := .bool (decide (l = m_))) rfl ?_); exact ⟨[A, B], ⟨rfl, rfl⟩, H⟩
theorem sclone_c (b off n c : Nat) (bs : List UInt8) (A : Asn) (hA : ∀ h, A h → rdH 1 (.slice (some ⟨b, off, none⟩) n c) n (bs.map u8) h) (hn : 0 < n ∧ n ≤ 1073741824) : Cn Tryz.prog 93 [.slice (some ⟨b, off, none⟩) n c] [A] (fun v Γ => (∃ v1, v = v1 ∧ Γ = [grow 5 1 v1 n (bs.map u8), A])) := by
 intro z R w H'; have H : Sep z (A :: R) w := H'
 clear H'; refine enter Tryz.func93 rfl 8 Tryz.ntmps93 rfl (k_seq (s_region (s_M 1 rfl rfl (s_end (k_seq (k_seq (s_region (s_M 1 rfl rfl (s_do rfl rfl rfl (d_eql_sn rfl (by kernel_rfl) rfl rfl) (s_end (k_false rfl (k_skip (k_seq ?_))))))))))))); refine s_region (s_go rfl rfl rfl (n_buildSlice0 H rfl (by kernel_rfl) (Elt.mk (P := Tryz.prog) (e := 5) (z := u8 0) (sz := 1) (by_ := 1) (by kernel_rfl) rfl (by omega) (by omega))) ?_); rintro _ w ⟨b1, rfl, H'⟩; have H := H'.l2; clear H'; refine s_M 1 rfl rfl ?_; have H' := H.mono 0 (B := grow 5 1 (.slice (some ⟨b1, 0, none⟩) 0 0) 0 []) rfl (fun h q => q.grow (by omega) (by omega) (by simp) rfl)
 have H := H'.l2; clear H'; refine s_go rfl rfl rfl (n_append 0 H rfl rfl (by kernel_rfl) (Elt.mk (P := Tryz.prog) (e := 5) (z := u8 0) (sz := 1) (by_ := 1) (by kernel_rfl) rfl (by omega) (by omega)) rfl rfl (H.rd 1 rfl hA) (by simp [u8, Value.oneCell']) (by omega)) ?_; rintro v2 w H'; have ev2 : ([] ++ bs.map u8 : List Value) = bs.map u8 := by simp
 rw [ev2] at H'; rw [show (0 + n : Nat) = n from by omega] at H'; have H := H'.l2; clear H'; have sv2 := H.says 0 rfl (fun h q => q.slc)
 refine s_M 1 rfl rfl (s_end (k_ret (doneL rfl [v2] ⟨rfl, trivial⟩ (v := v2) rfl ?_))); exact ⟨[grow 5 1 v2 n (bs.map u8), A], ⟨_, rfl, rfl⟩, H⟩
end Go.Proofs.YtbegkbjigbkljaaGreatDoor
namespace Go.Proofs.YtbegkbjigbkljaaGreatDoor
open Go.RowKit
theorem flat8_len (ns : List Int) : (ns.flatMap (beN 8)).length = 8 * ns.length := by
  induction ns with
  | nil => rfl
  | cons x ns ih => simp only [List.flatMap_cons, List.length_append, beN_len, ih, List.length_cons]; omega
theorem flat8_snoc {ns : List Int} {i : Nat} {x : Int} (h : ns[i]? = some x) : (ns.take i).flatMap (beN 8) ++ beN 8 x = (ns.take (i + 1)).flatMap (beN 8) := by
  rw [List.take_add_one, h]; simp
theorem flat8_seg (ns : List Int) : ∀ {j : Nat} {x : Int}, ns[j]? = some x → ((ns.flatMap (beN 8)).drop (8 * j)).take 8 = beN 8 x := by
  induction ns with
  | nil => intro j x h; simp at h
  | cons y ys ih =>
    intro j x h
    cases j with
    | zero =>
      simp at h; subst h
      rw [List.flatMap_cons, Nat.mul_zero, List.drop_zero, List.take_left' (beN_len 8 y)]
    | succ j =>
      rw [List.flatMap_cons, show 8 * (j + 1) = (beN 8 y).length + 8 * j from by rw [beN_len]; omega, List.drop_append]
      rw [List.drop_of_length_le (by omega), List.nil_append, show (beN 8 y).length + 8 * j - (beN 8 y).length = 8 * j from by omega]
      exact ih (by simpa using h)
theorem Sup.list_len (s : Sup) : s.list.length = 7 := rfl
theorem sup_snd (s : Sup) : sndP [80, 83, 85, 80] (supS s) := by
  have hl := supL_len s
  refine ⟨sect_sum (by omega), ?_⟩
  have := sect_head (l := supL s) (by omega) (p := 0) (k := 4) (by omega)
  rw [List.drop_zero, List.drop_zero] at this
  unfold supS; rw [this]; rfl
theorem sup_get {s : Sup} (hs : ∀ x ∈ s.list, 0 ≤ x ∧ x ≤ 1099511627776) {k : Nat} {x : Int} (hx : s.list[k]? = some x) : getI (((supS s).drop (4 + 8 * k)).take 8) = x := by
  have hl := supL_len s
  have hk : k < 7 := (List.getElem?_eq_some_iff.1 hx).1
  unfold supS
  rw [sect_head (by omega) (by omega)]
  unfold supL
  rw [List.drop_append, List.drop_of_length_le (by simp), List.nil_append, show 4 + 8 * k - ([80, 83, 85, 80] : List UInt8).length = 8 * k from by simp, flat8_seg _ hx]
  have := hs x (List.mem_of_getElem? hx)
  exact getI_be this.1 (by omega) (by omega)
theorem sup_bare (s : Sup) : rz (((supS s).drop 60).take 192) = 0 := by
  have hl := supL_len s
  have := sect_rest (l := supL s) (by omega)
  rw [hl] at this; exact this
theorem pg_snd {n : Nat} {p : Pg} (h : p.Ok) : sndP [80, 80, 65, 71] (pgS n p) := ⟨sect_sum (Nat.le_of_eq (pgL_len h)), pg_take4 h⟩
theorem pg_kind {n : Nat} {p : Pg} (h : p.Ok) : getI (((pgS n p).drop 4).take 1) = p.kind := by
  have hl := pgL_len (n := n) h
  unfold pgS
  rw [sect_head (by omega) (by omega), show pgL n p = [80, 80, 65, 71] ++ beN 1 p.kind ++ (beN 4 (n : Int) ++ [0, 0, 0] ++ p.body) from by simp [pgL], seg _ _ _ (by simp) (by simp [beN_len])]
  exact getI_be (by have := h.1; omega) (by have := h.1; omega) (by have := h.1; omega)
theorem pg_num {n : Nat} {p : Pg} (h : p.Ok) (hn : n ≤ 1023) : getI (((pgS n p).drop 5).take 4) = (n : Int) := by
  have hl := pgL_len (n := n) h
  unfold pgS
  rw [sect_head (by omega) (by omega), show pgL n p = ([80, 80, 65, 71] ++ beN 1 p.kind) ++ beN 4 (n : Int) ++ ([0, 0, 0] ++ p.body) from by simp [pgL], seg _ _ _ (by simp [beN_len]) (by simp [beN_len])]
  exact getI_be (by omega) (by omega) (by omega)
theorem pg_noughts {n : Nat} {p : Pg} (h : p.Ok) : getI (((pgS n p).drop 9).take 3) = 0 := by
  have hl := pgL_len (n := n) h
  unfold pgS
  rw [sect_head (by omega) (by omega), show pgL n p = ([80, 80, 65, 71] ++ beN 1 p.kind ++ beN 4 (n : Int)) ++ [0, 0, 0] ++ p.body from by simp [pgL], seg _ _ _ (by simp [beN_len]) (by simp)]
  decide
theorem pg_body {n : Nat} {p : Pg} (h : p.Ok) : ((pgS n p).drop 12).take 240 = p.body := by
  have hl := pgL_len (n := n) h
  unfold pgS
  rw [sect_head (by omega) (by omega), show pgL n p = ([80, 80, 65, 71] ++ beN 1 p.kind ++ beN 4 (n : Int) ++ [0, 0, 0]) ++ p.body ++ [] from by simp [pgL], seg _ _ _ (by simp [beN_len]) h.2.symm]
theorem sup_step {s : Sup} {k : Nat} {x : Int} (hx : s.list[k]? = some x) : ((s.list.take k).map (Value.int .i64) ++ List.replicate (7 - k) (Value.int .i64 0)).take k ++ [Value.int .i64 x] ++ ((s.list.take k).map (Value.int .i64) ++ List.replicate (7 - k) (Value.int .i64 0)).drop (k + 1) = (s.list.take (k + 1)).map (Value.int .i64) ++ List.replicate (7 - (k + 1)) (Value.int .i64 0) := by
  have hk : k < 7 := (List.getElem?_eq_some_iff.1 hx).1
  have hl : ((s.list.take k).map (Value.int .i64)).length = k := by simp [Sup.list]; omega
  rw [List.take_append_of_le_length (by omega), List.take_of_length_le (by omega), List.drop_append, List.drop_of_length_le (by omega), List.nil_append, hl, List.drop_replicate, List.take_add_one, hx, show 7 - k - (k + 1 - k) = 7 - (k + 1) from by omega]
  simp
theorem sup_mid {s : Sup} {k : Nat} {x : Int} (hx : s.list[k]? = some x) : ((s.list.take (k + 1)).map (Value.int .i64) ++ List.replicate (7 - (k + 1)) (Value.int .i64 0))[k]? = some (.int .i64 x) := by
  have hk : k < 7 := (List.getElem?_eq_some_iff.1 hx).1
  have hl : ((s.list.take (k + 1)).map (Value.int .i64)).length = k + 1 := by simp [Sup.list]; omega
  rw [List.getElem?_append_left (by omega), List.getElem?_map, List.getElem?_take, if_pos (by omega), hx]; rfl
theorem putSuper_c (pt : Nat) (s : Sup) (hs : ∀ x ∈ s.list, 0 ≤ x ∧ x ≤ 1099511627776) : Cn Tryz.prog 109 [.pointer (some ⟨pt, 0, none⟩), .agg #[.int .i64 s.gen, .int .i64 s.epoch, .int .i64 s.pages, .int .i64 s.start, .int .i64 s.len, .int .i64 s.head, .int .i64 s.seq]] [tblA pt] (fun v Γ => ∃ pw, v = .tuple #[.slice (some ⟨pw, 0, none⟩) 256 256, .int .i64 0] ∧ Γ = [blk pw (wrC (supS s) 60) 209, tblA pt]) := by
 intro z R w H'; have H : Sep z (tblA pt :: R) w := H'
 clear H'; have hsl7 := Sup.list_len s
 refine enter Tryz.func109 rfl 40 Tryz.ntmps109 rfl (k_seq (s_region (s_go rfl rfl rfl (n_box H rfl rfl (cs := [.int .i64 s.gen, .int .i64 s.epoch, .int .i64 s.pages, .int .i64 s.start, .int .i64 s.len, .int .i64 s.head, .int .i64 s.seq]) rfl) ?_))); rintro _ w ⟨b1, rfl, H'⟩; have H := H'.l2; clear H'; refine s_M 2 rfl rfl (s_end (k_seq (s_region (s_go rfl rfl rfl (n_alloc (P := Tryz.prog) H rfl (zs := (wrC (pad []) 0)) (by kernel_rfl)) ?_)))); rintro _ w ⟨b2, rfl, H'⟩; have H := H'.l3; clear H'; refine s_end (k_seq (s_region (s_C rfl rfl rfl rfl rfl (fun w => Tryz.call139 _ w) (text_c _ 0 [80, 83, 85, 80] _ (pad_len (by first | omega | (simp [beN_len, flat8_len, -List.length_flatMap] <;> omega))) (by first | omega | (simp <;> omega))) H rfl ?_))); rintro _ w _ ⟨rfl, rfl⟩ H'; have H := H'.l3; clear H'; rw [show wrAll (pad []) ([80, 83, 85, 80]) 0 = pad ([80, 83, 85, 80]) from pad_put rfl (by first | omega | (simp [beN_len, flat8_len, -List.length_flatMap] <;> omega))] at H; have H : Sep z (blk b2 (wrC (pad ([80, 83, 85, 80])) 4) 209 :: blk b1 [.int .i64 s.gen, .int .i64 s.epoch, .int .i64 s.pages, .int .i64 s.start, .int .i64 s.len, .int .i64 s.head, .int .i64 s.seq] 49 :: tblA pt :: R) w := H
 refine s_end (k_seq (k_seq (s_region (s_L 14 [0, 0, 1, 0, 2, 0, 3, 0, 4, 0, 5, 0, 6, 0] (mm1 (H.blk 1 rfl) mm0) rfl (by kernel_rfl) rfl (s_do rfl rfl rfl (d_build rfl rfl (out := [.int .i64 s.gen, .int .i64 s.epoch, .int .i64 s.pages, .int .i64 s.start, .int .i64 s.len, .int .i64 s.head, .int .i64 s.seq]) (by kernel_rfl)) (s_M 1 rfl rfl (s_end (k_block ?_)))))))); refine c_loop (σ := Nat) (fun k => [(25, .int .i64 (k : Int)), (0, .pointer (some ⟨pt, 0, none⟩)), (6, .pointer (some ⟨b2, 0, none⟩)), (24, .agg #[.int .i64 s.gen, .int .i64 s.epoch, .int .i64 s.pages, .int .i64 s.start, .int .i64 s.len, .int .i64 s.head, .int .i64 s.seq])])
   (fun k w => Sep z (blk b2 (wrC (pad ([80, 83, 85, 80] ++ (s.list.take k).flatMap (beN 8))) ((4 + 8 * k : Nat) : Int)) 209 :: blk b1 [.int .i64 s.gen, .int .i64 s.epoch, .int .i64 s.pages, .int .i64 s.start, .int .i64 s.len, .int .i64 s.head, .int .i64 s.seq] 49 :: tblA pt :: R) w ∧ (k ≤ 7)) (fun k => 7 - k) 0
   (fun _ hF => (hF.co rfl (by go_num) (hF.all rfl))) ⟨(by simpa using H), by omega⟩ ?_
 clear H; rintro k w ⟨H', hI⟩; have H := H'.l3; clear H'; have hk7 := hI; clear hI
 refine k_seq (s_region (s_M 1 rfl rfl (s_end (k_seq (k_dec rfl (fun h1 => ?_) (fun h1 => ?_))))))
 ·refine k_skip (k_seq (k_block (k_seq (s_region ?_)))); obtain ⟨x, hx⟩ : ∃ x, s.list[k]? = some x := ⟨_, List.getElem?_eq_getElem (by simp [Sup.list]; omega)⟩; have hx0 := hs x (List.mem_of_getElem? hx)
  refine s_do rfl rfl rfl (d_indexV rfl (by kernel_rfl) rfl (l := s.list) (j := k) rfl rfl rfl rfl hx) (s_M 1 rfl rfl (s_end (k_seq (k_seq (s_region (s_M 1 rfl rfl (s_C rfl rfl rfl rfl rfl (fun w => Tryz.call101 _ w) (in_c _ _) H rfl ?_))))))); rintro _ w _ ⟨rfl, rfl⟩ H'; have H := H'.l3; clear H'; refine s_do rfl rfl rfl (d_not_dec rfl rfl) (s_M 1 rfl rfl (s_part 31 rfl (fun h2 => ?_) (fun h2 => ?_)))
  ·(exfalso; omega)
  ·refine s_M 1 rfl rfl (s_do rfl rfl rfl (d_eql_pn rfl (by kernel_rfl) rfl rfl) (s_M 1 rfl rfl (s_end (k_false rfl (k_skip (s_region (s_M 1 rfl rfl (s_C rfl rfl rfl rfl rfl (fun w => Tryz.call140 _ w) (put_c _ (4 + 8 * k) 8 x _ (pad_len (by first | omega | (simp [beN_len, flat8_len, -List.length_flatMap] <;> omega))) (by omega)) H rfl ?_)))))))); rintro _ w _ ⟨rfl, rfl⟩ H'; have H := H'.l3; clear H'; rw [show ((4 + 8 * k + 8 : Nat) : Int) = (((4 + 8 * (k + 1) : Nat) : Int) : Int) from by omega] at H; rw [show wrAll (pad ([80, 83, 85, 80] ++ (s.list.take k).flatMap (beN 8))) (beN 8 x) (4 + 8 * k) = pad ([80, 83, 85, 80] ++ (s.list.take k).flatMap (beN 8) ++ beN 8 x) from pad_put (by first | omega | (simp [beN_len, flat8_len, -List.length_flatMap] <;> omega)) (by first | omega | (simp [beN_len, flat8_len, -List.length_flatMap] <;> omega))] at H; have H : Sep z (blk b2 (wrC (pad ([80, 83, 85, 80] ++ (s.list.take k).flatMap (beN 8) ++ beN 8 x)) ((4 + 8 * (k + 1) : Nat) : Int)) 209 :: blk b1 [.int .i64 s.gen, .int .i64 s.epoch, .int .i64 s.pages, .int .i64 s.start, .int .i64 s.len, .int .i64 s.head, .int .i64 s.seq] 49 :: tblA pt :: R) w := H
   refine s_end (s_region (s_do rfl rfl rfl (d_add64 rfl rfl rfl (r := (k : Int) + 1) (by omega) (by omega)) (s_M 1 rfl rfl (s_end ?_)))); intro _ hF; refine ⟨(k + 1), (hF.co rfl (by go_num) (hF.all rfl)), ⟨(by rw [← flat8_snoc hx, ← List.append_assoc]; exact H), ?_⟩, ?_⟩
   ·omega
   ·omega
 ·obtain rfl : k = 7 := by omega
  refine k_exit (k_here (k_seq ?_)); have H : Sep z (blk b2 (wrC (pad (supL s)) 60) 209 :: blk b1 [.int .i64 s.gen, .int .i64 s.epoch, .int .i64 s.pages, .int .i64 s.start, .int .i64 s.len, .int .i64 s.head, .int .i64 s.seq] 49 :: tblA pt :: R) w := H
  refine s_region (s_M 1 rfl rfl (s_C rfl rfl rfl rfl rfl (fun w => Tryz.call141 _ w) (framed_c _ _ _ _ (pad_len (by first | omega | (simp [beN_len, supL_len] <;> omega)))) H.f2.f1 rfl ?_)); rintro _ w _ ⟨rfl, rfl⟩ H'; have H := H'.l3; clear H'; refine s_M 2 rfl rfl (s_end (k_ret (doneL rfl [.slice (some ⟨b2, 0, none⟩) 256 256, .int .i64 0] ⟨rfl, ⟨rfl, trivial⟩⟩ (v := .tuple #[.slice (some ⟨b2, 0, none⟩) 256 256, .int .i64 0]) rfl ?_))); exact ⟨[blk b2 (wrC (supS s) 60) 209, tblA pt], ⟨b2, rfl, rfl⟩, H.perm 3 [0, 1] rfl rfl⟩
theorem getSuper_c (pt b o c : Nat) (sec : List UInt8) (A : Asn) (hA : ∀ h, A h → rdH 1 (.slice (some ⟨b, o, none⟩) 256 c) 256 (sec.map u8) h) (s : Sup) (hs : ∀ x ∈ s.list, 0 ≤ x ∧ x ≤ 1099511627776) (hsec : sec = supS s) : Cn Tryz.prog 104 [.pointer (some ⟨pt, 0, none⟩), .slice (some ⟨b, o, none⟩) 256 c] [tblA pt, A] (fun v Γ => v = .tuple #[.agg #[.int .i64 s.gen, .int .i64 s.epoch, .int .i64 s.pages, .int .i64 s.start, .int .i64 s.len, .int .i64 s.head, .int .i64 s.seq], .bool true] ∧ Γ = [tblA pt, A]) := by
 intro z R w H'; have H : Sep z (tblA pt :: A :: R) w := H'
 clear H'; have hsl := H.says 1 rfl (fun h q => (hA h q).len)
 have hcb := H.says 1 rfl (fun h q => (hA h q).cap)
 obtain ⟨c0, c1, c2, c3, hd⟩ := four hsl; refine enter Tryz.func104 rfl 45 Tryz.ntmps104 rfl (k_seq (s_region (s_go rfl rfl rfl (n_alloc (P := Tryz.prog) H rfl (zs := [.int .i64 0, .int .i64 0, .int .i64 0, .int .i64 0, .int .i64 0, .int .i64 0, .int .i64 0]) (by kernel_rfl)) ?_))); rintro _ w ⟨b1, rfl, H'⟩; have H := H'.l3; clear H'; refine s_M 1 rfl rfl (s_end (k_seq (s_region (s_M 2 rfl rfl (s_C rfl rfl rfl rfl rfl (fun w => Tryz.call99 _ w) (sound_c _ _ _ _ _ sec _ hA) H.f2.f2 rfl ?_))))); rintro _ w _ (⟨hs0, rfl, rfl⟩ | ⟨hs0, rfl, rfl⟩) H'
 ·have H := H'.l3; clear H'; refine s_M 3 rfl rfl (s_go rfl rfl rfl (n_alloc (P := Tryz.prog) H rfl (zs := [.slice none 0 0]) (by kernel_rfl)) ?_); rintro _ w ⟨b2, rfl, H'⟩; have H := H'.l4; clear H'; refine s_put rfl rfl (n_store 0 H rfl rfl rfl rfl (vs := [.slice (some ⟨b, (o + 4), none⟩) 248 (c - 4)]) rfl (by simp [u8, u32, Value.oneCell']) (by kernel_rfl) (by simp) (out := [.slice (some ⟨b, (o + 4), none⟩) 248 (c - 4)]) rfl) ?_; rintro w H'; have H := H'.l4; clear H'; refine s_M 1 rfl rfl (s_end (k_seq (k_seq (s_region (s_M 2 rfl rfl (s_end (k_false rfl (k_skip (k_seq (s_region (s_go rfl rfl rfl (n_alloc (P := Tryz.prog) H rfl (zs := [.int .i64 0, .int .i64 0, .int .i64 0, .int .i64 0, .int .i64 0, .int .i64 0, .int .i64 0]) (by kernel_rfl)) ?_))))))))))); rintro _ w ⟨b3, rfl, H'⟩; have H := H'.l5; clear H'; refine s_end (k_seq (k_seq (s_region (s_Q 7 [0, 1, 2, 3, 4, 5, 6] rfl (by kernel_rfl) (s_do rfl rfl rfl (d_build rfl rfl (out := [.pointer (some ⟨b3, 0, none⟩), .pointer (some ⟨b3, 1, none⟩), .pointer (some ⟨b3, 2, none⟩), .pointer (some ⟨b3, 3, none⟩), .pointer (some ⟨b3, 4, none⟩), .pointer (some ⟨b3, 5, none⟩), .pointer (some ⟨b3, 6, none⟩)]) (by kernel_rfl)) (s_M 1 rfl rfl (s_end (k_block ?_)))))))); refine c_loop (σ := Nat) (fun k => [(28, .int .i64 (k : Int)), (4, .pointer (some ⟨b1, 0, none⟩)), (6, .pointer (some ⟨b2, 0, none⟩)), (8, .pointer (some ⟨b3, 0, none⟩)), (27, .agg #[.pointer (some ⟨b3, 0, none⟩), .pointer (some ⟨b3, 1, none⟩), .pointer (some ⟨b3, 2, none⟩), .pointer (some ⟨b3, 3, none⟩), .pointer (some ⟨b3, 4, none⟩), .pointer (some ⟨b3, 5, none⟩), .pointer (some ⟨b3, 6, none⟩)])])
    (fun k w => Sep z (blk b3 ((s.list.take k).map (Value.int .i64) ++ List.replicate (7 - k) (Value.int .i64 0)) 49 :: blk b2 [.slice (some ⟨b, (o + (4 + 8 * k)), none⟩) (252 - (4 + 8 * k)) (c - (4 + 8 * k))] 155 :: tblA pt :: A :: blk b1 [.int .i64 0, .int .i64 0, .int .i64 0, .int .i64 0, .int .i64 0, .int .i64 0, .int .i64 0] 49 :: R) w ∧ (k ≤ 7)) (fun k => 7 - k) 0
    (fun _ hF => (hF.co rfl (by go_num) (hF.all rfl))) ⟨H, by omega⟩ ?_
  clear H; rintro k w ⟨H', hI⟩; have H := H'.l5; clear H'; have hk7 := hI; clear hI
  refine k_seq (s_region (s_M 1 rfl rfl (s_end (k_seq (k_dec rfl (fun h1 => ?_) (fun h1 => ?_))))))
  ·have hk7b : k < 7 := by omega
   refine k_skip (k_seq (k_block (k_seq (s_region ?_)))); obtain ⟨x, hx⟩ : ∃ x, s.list[k]? = some x := ⟨_, List.getElem?_eq_getElem (by simp [Sup.list]; omega)⟩; have hx0 := hs x (List.mem_of_getElem? hx)
   have hgx : getI ((sec.drop (4 + 8 * k)).take 8) = x := by rw [hsec]; exact sup_get hs hx
   refine s_do rfl rfl rfl (d_indexW (m := 7) rfl (by kernel_rfl) rfl rfl rfl (j := k) rfl (u := .pointer (some ⟨b3, k, none⟩)) (by rcases (show k = 0 ∨ k = 1 ∨ k = 2 ∨ k = 3 ∨ k = 4 ∨ k = 5 ∨ k = 6 by omega) with rfl | rfl | rfl | rfl | rfl | rfl | rfl <;> rfl)) (s_M 1 rfl rfl (s_end (k_seq (s_region (s_M 1 rfl rfl (s_C rfl rfl rfl rfl rfl (fun w => Tryz.call100 _ w) (get_c 8 _ b (o + (4 + 8 * k)) (252 - (4 + 8 * k)) (c - (4 + 8 * k)) ((sec.drop (4 + 8 * k)).take (252 - (4 + 8 * k))) _ (fun h q => (hA h q).cut (lo := (4 + 8 * k)) (m := (252 - (4 + 8 * k))) (c' := (c - (4 + 8 * k))) (by omega) (by omega) (by omega)) (by omega) (by omega) ((sec.drop (4 + 8 * k)).take 8) (by rw [List.take_take, Nat.min_eq_left (by omega)]) (o + (4 + 8 * (k + 1))) (252 - (4 + 8 * (k + 1))) (c - (4 + 8 * (k + 1))) (by omega) (by omega) (by omega)) H.f3.f2 rfl ?_)))))); rintro _ w _ ⟨rfl, rfl⟩ H'; have H := H'.l5; clear H'; refine k_updA 32 (u := .int .i64 (getI ((sec.drop (4 + 8 * k)).take 8))) (v := .int .i64 x) rfl (congrArg (Value.int .i64) hgx) (s_M 1 rfl rfl (s_put rfl rfl (n_store 2 H rfl rfl rfl rfl (vs := [.int .i64 x]) rfl (by simp [u8, u32, Value.oneCell']) (by kernel_rfl) (by have := Sup.list_len s; simp; omega) (out := ((s.list.take (k + 1)).map (Value.int .i64) ++ List.replicate (7 - (k + 1)) (Value.int .i64 0))) (sup_step hx)) ?_)); rintro w H'; have H := H'.l5; clear H'; refine s_end (k_seq (s_region (s_M 2 rfl rfl (s_do rfl rfl rfl (d_load rfl rfl (by kernel_rfl) (here (H.cel 2 rfl k (sup_mid hx)))) (s_C rfl rfl rfl rfl rfl (fun w => Tryz.call101 _ w) (in_c _ _) H rfl ?_)))))
   rintro _ w _ ⟨rfl, rfl⟩ H'; have H := H'.l5; clear H'; refine s_do rfl rfl rfl (d_not_dec rfl rfl) (s_end (k_dec rfl (fun h2 => ?_) (fun h2 => ?_)))
   ·(exfalso; omega)
   ·refine k_skip (s_region (s_do rfl rfl rfl (d_add64 rfl rfl rfl (r := (k : Int) + 1) (by omega) (by omega)) (s_M 1 rfl rfl (s_end ?_)))); replace H := H.f4.f2.f4.f3.f4; intro _ hF; refine ⟨(k + 1), (hF.co rfl (by go_num) (hF.all rfl)), ⟨H, ?_⟩, ?_⟩
    ·omega
    ·omega
  ·obtain rfl : k = 7 := by omega
   refine k_exit (k_here (k_seq (k_seq ?_))); have H : Sep z (blk b3 [.int .i64 s.gen, .int .i64 s.epoch, .int .i64 s.pages, .int .i64 s.start, .int .i64 s.len, .int .i64 s.head, .int .i64 s.seq] 49 :: blk b2 [.slice (some ⟨b, (o + (4 + 8 * 7)), none⟩) (252 - (4 + 8 * 7)) (c - (4 + 8 * 7))] 155 :: tblA pt :: A :: blk b1 [.int .i64 0, .int .i64 0, .int .i64 0, .int .i64 0, .int .i64 0, .int .i64 0, .int .i64 0] 49 :: R) w := H
   refine s_region (s_C rfl rfl rfl rfl rfl (fun w => Tryz.call134 _ w) (bare_c _ b (o + (4 + 8 * 7)) (252 - (4 + 8 * 7)) (c - (4 + 8 * 7)) ((sec.drop (4 + 8 * 7)).take (252 - (4 + 8 * 7))) _ (fun h q => (hA h q).cut (lo := (4 + 8 * 7)) (m := (252 - (4 + 8 * 7))) (c' := (c - (4 + 8 * 7))) (by omega) (by omega) (by omega)) (by omega)) H.f3.f2 rfl ?_); rintro _ w _ ⟨rfl, rfl⟩ H'; have H := H'.l5; clear H'; refine s_do rfl rfl rfl (d_not_dec rfl rfl) (s_end (k_dec rfl (fun h3 => ?_) (fun h3 => ?_)))
   ·exact absurd (by rw [hsec]; exact sup_bare s) h3
   ·refine k_skip (k_seq (s_region (s_do rfl rfl rfl (d_loadAgg rfl rfl (vs := [.int .i64 s.gen, .int .i64 s.epoch, .int .i64 s.pages, .int .i64 s.start, .int .i64 s.len, .int .i64 s.head, .int .i64 s.seq]) (by kernel_rfl) (here ((H.blk 2 rfl).part 0 7 _ rfl))) (s_put rfl rfl (n_store 4 H rfl rfl rfl rfl (vs := [.int .i64 s.gen, .int .i64 s.epoch, .int .i64 s.pages, .int .i64 s.start, .int .i64 s.len, .int .i64 s.head, .int .i64 s.seq]) rfl (by simp [u8, u32, Value.oneCell']) (by kernel_rfl) (by simp) (out := [.int .i64 s.gen, .int .i64 s.epoch, .int .i64 s.pages, .int .i64 s.start, .int .i64 s.len, .int .i64 s.head, .int .i64 s.seq]) rfl) ?_)))); rintro w H'; have H := H'.l5; clear H'; refine s_M 1 rfl rfl (s_end (k_ret (doneL rfl [.agg #[.int .i64 s.gen, .int .i64 s.epoch, .int .i64 s.pages, .int .i64 s.start, .int .i64 s.len, .int .i64 s.head, .int .i64 s.seq], .bool true] ⟨⟨_, _, rfl, run_loadBlk (by kernel_rfl) (H.blk 4 rfl) (vs := [.int .i64 s.gen, .int .i64 s.epoch, .int .i64 s.pages, .int .i64 s.start, .int .i64 s.len, .int .i64 s.head, .int .i64 s.seq]) rfl⟩, ⟨rfl, trivial⟩⟩ (v := .tuple #[.agg #[.int .i64 s.gen, .int .i64 s.epoch, .int .i64 s.pages, .int .i64 s.start, .int .i64 s.len, .int .i64 s.head, .int .i64 s.seq], .bool true]) rfl ?_))); exact ⟨[tblA pt, A], ⟨rfl, rfl⟩, H.perm 5 [3, 1] rfl rfl⟩
 ·exact absurd (hsec ▸ sup_snd s) hs0
end Go.Proofs.YtbegkbjigbkljaaGreatDoor
namespace Go.Proofs.YtbegkbjigbkljaaGreatDoor
open Go.RowKit
theorem getPageZ_c (pt b o c : Nat) (sec : List UInt8) (A : Asn) (hA : ∀ h, A h → rdH 1 (.slice (some ⟨b, o, none⟩) 256 c) 256 (sec.map u8) h) (n : Nat) (hsec : sec = List.replicate 256 0) : Cn Tryz.prog 59 [.pointer (some ⟨pt, 0, none⟩), .slice (some ⟨b, o, none⟩) 256 c, .int .i64 (n : Int)] [tblA pt, A] (fun v Γ => v = .tuple #[.agg #[.int .i64 0, .slice none 0 0], .bool true] ∧ Γ = [tblA pt, A]) := by
 intro z R w H'; have H : Sep z (tblA pt :: A :: R) w := H'
 clear H'; have hsl := H.says 1 rfl (fun h q => (hA h q).len)
 refine enter Tryz.func59 rfl 58 Tryz.ntmps59 rfl (k_seq (s_region (s_go rfl rfl rfl (n_alloc (P := Tryz.prog) H rfl (zs := [.int .i64 0, .slice none 0 0]) (by kernel_rfl)) ?_))); rintro _ w ⟨b1, rfl, H'⟩; have H := H'.l3; clear H'; refine s_M 1 rfl rfl (s_end (k_seq (k_seq (s_region (s_M 1 rfl rfl (s_do rfl rfl rfl (d_neq_pn rfl (by kernel_rfl) rfl rfl) (s_M 2 rfl rfl (s_go rfl rfl rfl (n_make (k := 256) H rfl (by kernel_rfl) (Elt.mk (P := Tryz.prog) (e := 5) (z := u8 0) (sz := 1) (by_ := 1) (by kernel_rfl) rfl (by omega) (by omega)) rfl rfl rfl (by omega)) ?_)))))))); rintro _ w ⟨b2, rfl, H'⟩; have H := H'.l4; clear H'; refine s_C rfl rfl rfl rfl rfl (fun w => Tryz.call98 _ w) (beq_c _ _ sec (List.replicate 256 0) _ _ (fun h q => by rw [hsl]; exact hA h q) (fun h q => by rw [List.length_replicate, List.map_replicate]; exact q.rd (by omega) (by omega) (by simp) rfl)) H.f3 rfl ?_; rintro _ w _ ⟨rfl, rfl⟩ H'; have H := H'.l4; clear H'; refine s_M 1 rfl rfl (s_end (k_dec rfl (fun h1 => ?_) (fun h1 => ?_)))
 ·refine k_seq (s_region (s_do rfl rfl rfl (d_build rfl rfl (out := [.int .i64 0, .slice none 0 0]) (by kernel_rfl)) (s_put rfl rfl (n_store 2 H rfl rfl rfl rfl (vs := [.int .i64 0, .slice none 0 0]) rfl (by simp [u8, u32, Value.oneCell']) (by kernel_rfl) (by simp) (out := [.int .i64 0, .slice none 0 0]) rfl) ?_))); rintro w H'; have H := H'.l4; clear H'; refine s_M 1 rfl rfl (s_end (k_ret (doneL rfl [.agg #[.int .i64 0, .slice none 0 0], .bool true] ⟨⟨_, _, rfl, run_loadBlk (by kernel_rfl) (H.blk 2 rfl) (vs := [.int .i64 0, .slice none 0 0]) rfl⟩, ⟨rfl, trivial⟩⟩ (v := .tuple #[.agg #[.int .i64 0, .slice none 0 0], .bool true]) rfl ?_))); exact ⟨[tblA pt, A], ⟨rfl, rfl⟩, H.perm 4 [3, 0] rfl rfl⟩
 ·exact absurd hsec h1
theorem getPage_c (pt b o c : Nat) (sec : List UInt8) (A : Asn) (hA : ∀ h, A h → rdH 1 (.slice (some ⟨b, o, none⟩) 256 c) 256 (sec.map u8) h) (n : Nat) (p : Pg) (hp : p.Ok) (hn : n ≤ 1023) (hsec : sec = pgS n p) : Cn Tryz.prog 59 [.pointer (some ⟨pt, 0, none⟩), .slice (some ⟨b, o, none⟩) 256 c, .int .i64 (n : Int)] [tblA pt, A] (fun v Γ => ∃ v1, v = .tuple #[.agg #[.int .i64 p.kind, v1], .bool true] ∧ Γ = [grow 5 1 v1 240 (p.body.map u8), tblA pt, A]) := by
 intro z R w H'; have H : Sep z (tblA pt :: A :: R) w := H'
 clear H'; have hsl := H.says 1 rfl (fun h q => (hA h q).len)
 have hcb := H.says 1 rfl (fun h q => (hA h q).cap)
 obtain ⟨c0, c1, c2, c3, hd⟩ := four hsl; have hpk := hp.1
 refine enter Tryz.func59 rfl 58 Tryz.ntmps59 rfl (k_seq (s_region (s_go rfl rfl rfl (n_alloc (P := Tryz.prog) H rfl (zs := [.int .i64 0, .slice none 0 0]) (by kernel_rfl)) ?_))); rintro _ w ⟨b1, rfl, H'⟩; have H := H'.l3; clear H'; refine s_M 1 rfl rfl (s_end (k_seq (k_seq (s_region (s_M 1 rfl rfl (s_do rfl rfl rfl (d_neq_pn rfl (by kernel_rfl) rfl rfl) (s_M 2 rfl rfl (s_go rfl rfl rfl (n_make (k := 256) H rfl (by kernel_rfl) (Elt.mk (P := Tryz.prog) (e := 5) (z := u8 0) (sz := 1) (by_ := 1) (by kernel_rfl) rfl (by omega) (by omega)) rfl rfl rfl (by omega)) ?_)))))))); rintro _ w ⟨b2, rfl, H'⟩; have H := H'.l4; clear H'; refine s_C rfl rfl rfl rfl rfl (fun w => Tryz.call98 _ w) (beq_c _ _ sec (List.replicate 256 0) _ _ (fun h q => by rw [hsl]; exact hA h q) (fun h q => by rw [List.length_replicate, List.map_replicate]; exact q.rd (by omega) (by omega) (by simp) rfl)) H.f3 rfl ?_; rintro _ w _ ⟨rfl, rfl⟩ H'; have H := H'.l4; clear H'; refine s_M 1 rfl rfl (s_end (k_dec rfl (fun h1 => ?_) (fun h1 => ?_)))
 ·exact absurd (hsec.symm.trans h1) (pg_not_zero hp)
 ·refine k_skip (k_seq (s_region (s_M 2 rfl rfl (s_C rfl rfl rfl rfl rfl (fun w => Tryz.call99 _ w) (sound_c _ _ _ _ _ sec _ hA) H.f3 rfl ?_)))); rintro _ w _ (⟨hs0, rfl, rfl⟩ | ⟨hs0, rfl, rfl⟩) H'
  ·have H := H'.l4; clear H'; refine s_M 3 rfl rfl (s_go rfl rfl rfl (n_alloc (P := Tryz.prog) H rfl (zs := [.slice none 0 0]) (by kernel_rfl)) ?_); rintro _ w ⟨b3, rfl, H'⟩; have H := H'.l5; clear H'; refine s_put rfl rfl (n_store 0 H rfl rfl rfl rfl (vs := [.slice (some ⟨b, (o + 4), none⟩) 248 (c - 4)]) rfl (by simp [u8, u32, Value.oneCell']) (by kernel_rfl) (by simp) (out := [.slice (some ⟨b, (o + 4), none⟩) 248 (c - 4)]) rfl) ?_; rintro w H'; have H := H'.l5; clear H'; refine s_M 1 rfl rfl (s_end (k_seq (k_seq (s_region (s_M 2 rfl rfl (s_end (k_false rfl (k_skip (k_seq (s_region (s_C rfl rfl rfl rfl rfl (fun w => Tryz.call100 _ w) (get_c 1 _ b (o + 4) 248 (c - 4) ((sec.drop 4).take 248) _ (fun h q => (hA h q).cut (lo := 4) (m := 248) (c' := (c - 4)) (by omega) (by omega) (by omega)) (by omega) (by omega) ((sec.drop 4).take 1) (by rw [List.take_take, Nat.min_eq_left (by omega)]) (o + 5) 247 (c - 5) (by omega) (by omega) (by omega)) H.f2.f1 rfl ?_))))))))))); rintro _ w _ ⟨rfl, rfl⟩ H'; have H := H'.l5; clear H'; refine k_updA 28 (u := .int .i64 (getI ((sec.drop 4).take 1))) (v := .int .i64 p.kind) rfl (congrArg (Value.int .i64) (by rw [hsec]; exact pg_kind hp)) (s_do rfl rfl rfl (d_build rfl rfl (out := [.int .i64 p.kind, .slice none 0 0]) (by kernel_rfl)) (s_go rfl rfl rfl (n_alloc (P := Tryz.prog) H rfl (zs := [.int .i64 0, .slice none 0 0]) (by kernel_rfl)) ?_)); rintro _ w ⟨b4, rfl, H'⟩; have H := H'.l6; clear H'; refine s_put rfl rfl (n_store 0 H rfl rfl rfl rfl (vs := [.int .i64 p.kind, .slice none 0 0]) rfl (by simp [u8, u32, Value.oneCell']) (by kernel_rfl) (by simp) (out := [.int .i64 p.kind, .slice none 0 0]) rfl) ?_
   rintro w H'; have H := H'.l6; clear H'; refine s_end (k_seq (k_seq (s_region (s_L 4 [0, 0] (mm1 (H.blk 0 rfl) mm0) rfl (by kernel_rfl) rfl (s_part 33 rfl (fun h2 => ?_) (fun h2 => ?_))))))
   ·(exfalso; omega)
   ·refine s_L 5 [0, 0] (mm1 (H.blk 0 rfl) mm0) rfl (by kernel_rfl) rfl (s_part 38 rfl (fun h3 => ?_) (fun h3 => ?_))
    ·(exfalso; omega)
    ·refine s_M 1 rfl rfl (s_C rfl rfl rfl rfl rfl (fun w => Tryz.call101 _ w) (in_c _ _) H rfl ?_); rintro _ w _ ⟨rfl, rfl⟩ H'; have H := H'.l6; clear H'; refine s_do rfl rfl rfl (d_not_dec rfl rfl) (s_M 2 rfl rfl (s_part 43 rfl (fun h4 => ?_) (fun h4 => ?_)))
     ·(exfalso; omega)
     ·refine s_C rfl rfl rfl rfl rfl (fun w => Tryz.call100 _ w) (get_c 4 _ b (o + 5) 247 (c - 5) ((sec.drop 5).take 247) _ (fun h q => (hA h q).cut (lo := 5) (m := 247) (c' := (c - 5)) (by omega) (by omega) (by omega)) (by omega) (by omega) ((sec.drop 5).take 4) (by rw [List.take_take, Nat.min_eq_left (by omega)]) (o + 9) 243 (c - 9) (by omega) (by omega) (by omega)) H.f2.f2 rfl ?_; rintro _ w _ ⟨rfl, rfl⟩ H'; have H := H'.l6; clear H'; refine k_updA 44 (u := .int .i64 (getI ((sec.drop 5).take 4))) (v := .int .i64 (n : Int)) rfl (congrArg (Value.int .i64) (by rw [hsec]; exact pg_num hp hn)) (s_M 4 rfl rfl (s_part 48 rfl (fun h5 => ?_) (fun h5 => ?_)))
      ·exact absurd rfl h5
      ·refine s_C rfl rfl rfl rfl rfl (fun w => Tryz.call100 _ w) (get_c 3 _ b (o + 9) 243 (c - 9) ((sec.drop 9).take 243) _ (fun h q => (hA h q).cut (lo := 9) (m := 243) (c' := (c - 9)) (by omega) (by omega) (by omega)) (by omega) (by omega) ((sec.drop 9).take 3) (by rw [List.take_take, Nat.min_eq_left (by omega)]) (o + 12) 240 (c - 12) (by omega) (by omega) (by omega)) H rfl ?_; rintro _ w _ ⟨rfl, rfl⟩ H'; have H := H'.l6; clear H'; refine k_updA 49 (u := .int .i64 (getI ((sec.drop 9).take 3))) (v := .int .i64 0) rfl (congrArg (Value.int .i64) (by rw [hsec]; exact pg_noughts hp)) (s_M 1 rfl rfl (k_updA 50 (u := .bool (decide ((0 : Int) ≠ 0))) (v := .bool false) rfl (congrArg Value.bool (by decide)) (s_M 1 rfl rfl (s_end (k_false rfl (k_skip (k_seq (s_region (s_L 2 [0, 0] (mm1 (H.blk 0 rfl) mm0) rfl (by kernel_rfl) rfl (s_C rfl rfl rfl rfl rfl (fun w => Tryz.call97 _ w) (clone_c _ _ 240 _ p.body _ ((fun h q => by have := (hA h q).cut (lo := 12) (m := 240) (c' := c - 12) (by omega) (by omega) (by omega); rw [hsec, pg_body hp] at this; exact this)) (by omega)) H.f1 rfl ?_)))))))))); rintro _ w _ ⟨g, cap, rest, rfl, ⟨cg, cc, cl⟩, rfl⟩ H'; have H := H'.l7; clear H'; refine s_Q 1 [1] rfl (by kernel_rfl) (s_put rfl rfl (n_store 3 H rfl rfl rfl rfl (vs := [.slice (some ⟨g, 0, none⟩) 240 cap]) rfl (by simp [u8, u32, Value.oneCell']) (by kernel_rfl) (by simp) (out := [.int .i64 p.kind, .slice (some ⟨g, 0, none⟩) 240 cap]) rfl) ?_); rintro w H'; have H := H'.l7; clear H'; refine s_end (k_seq (s_region (s_do rfl rfl rfl (d_loadAgg rfl rfl (vs := [.int .i64 p.kind, .slice (some ⟨g, 0, none⟩) 240 cap]) (by kernel_rfl) (here ((H.blk 3 rfl).part 0 2 _ rfl))) (s_put rfl rfl (n_store 6 H rfl rfl rfl rfl (vs := [.int .i64 p.kind, .slice (some ⟨g, 0, none⟩) 240 cap]) rfl (by simp [u8, u32, Value.oneCell']) (by kernel_rfl) (by simp) (out := [.int .i64 p.kind, .slice (some ⟨g, 0, none⟩) 240 cap]) rfl) ?_))))
       rintro w H'; have H := H'.l7; clear H'; refine s_M 1 rfl rfl (s_end (k_ret (doneL rfl [.agg #[.int .i64 p.kind, .slice (some ⟨g, 0, none⟩) 240 cap], .bool true] ⟨⟨_, _, rfl, run_loadBlk (by kernel_rfl) (H.blk 6 rfl) (vs := [.int .i64 p.kind, .slice (some ⟨g, 0, none⟩) 240 cap]) rfl⟩, ⟨rfl, trivial⟩⟩ (v := .tuple #[.agg #[.int .i64 p.kind, .slice (some ⟨g, 0, none⟩) 240 cap], .bool true]) rfl ?_))); have H' := H.mono 0 (B := grow 5 1 (.slice (some ⟨g, 0, none⟩) 240 cap) 240 (p.body.map u8)) rfl (fun h q => q.grow (by omega) (by omega) (by simp [hp.2]; omega) (by rw [Nat.mul_one, List.take_append_of_le_length (by simp [hp.2])]; exact List.take_of_length_le (by simp [hp.2])))
       have H := H'.l7; clear H'; exact ⟨[grow 5 1 (.slice (some ⟨g, 0, none⟩) 240 cap) 240 (p.body.map u8), tblA pt, A], ⟨_, rfl, rfl⟩, H.perm 7 [0, 4, 1] rfl rfl⟩
  ·exact absurd (hsec ▸ pg_snd hp) hs0
end Go.Proofs.YtbegkbjigbkljaaGreatDoor
namespace Go.Proofs.YtbegkbjigbkljaaGreatDoor
open Go.RowKit
def flS (D : Dsk) (S : List IE) : Dsk := { D with dur := fun i => if (i : Int) ∈ S.map (fun p : IE => p.1) then D.cont i else D.dur i }
theorem ent_row {es : List Ent} {e : Ent} (he : e ∈ es) {h : Hp} (hs : seps (es.map Ent.row) h) : rdH 1 e.v e.pvs.length e.pvs h := by
  obtain ⟨i, hi⟩ := List.getElem?_of_mem he
  obtain ⟨h', hA, hsub⟩ := seps_mem hs (i := i) (A := e.row) (by rw [List.getElem?_map, hi]; rfl)
  exact (grow.rd hA).le hsub
theorem flS_nil {D : Dsk} : flS D [] = D := by simp [flS]
theorem own_put {n k : Nat} {bs q : List UInt8} {dur : Nat → List UInt8} (hl : bs.length = n * 256) (hq : q.length = 256) (hk : k < n) (ho : ∀ i, i < n → (bs.drop (i * 256)).take 256 = dur i) :
    (bs.take (k * 256) ++ q ++ bs.drop (k * 256 + 256)).length = n * 256 ∧ ∀ i, i < n → ((bs.take (k * 256) ++ q ++ bs.drop (k * 256 + 256)).drop (i * 256)).take 256 = if i = k then q else dur i := by
  have hl1 : (bs.take (k * 256)).length = k * 256 := by rw [List.length_take]; omega
  refine ⟨by simp only [List.length_append, List.length_drop, hl1]; omega, fun i hi => ?_⟩
  rcases Nat.lt_trichotomy i k with h | h | h
  · rw [if_neg (by omega), ← ho i hi, List.append_assoc, List.drop_append_of_le_length (by rw [hl1]; omega), List.take_append_of_le_length (by rw [List.length_drop, hl1]; omega), List.drop_take, List.take_take, Nat.min_eq_left (by omega)]
  · subst h
    rw [if_pos rfl, List.append_assoc, List.drop_append, List.drop_of_length_le (by omega), List.nil_append, hl1, Nat.sub_self, List.drop_zero, List.take_append, List.take_of_length_le (by omega), hq]; simp
  · rw [if_neg (by omega), ← ho i hi, List.drop_append, List.drop_of_length_le (by rw [List.length_append, hl1]; omega), List.nil_append, List.length_append, hl1, hq, List.drop_drop]
    congr 2; omega
theorem flS_step {D : Dsk} {S : List IE} {bs : List UInt8} {es : List Ent} {clk : Nat} {hq : Hp} (hD : D.Ok) (hI : (flS D S).In bs es clk hq) {p : IE} {k : Nat} (hp : p.1 = (k : Int)) (hk : k < D.n) : (flS D (S ++ [p])).In (bs.take (k * 256) ++ D.cont k ++ bs.drop (k * 256 + 256)) es clk hq := by
  have ho := own_put (q := D.cont k) hI.len (Dsk.cont_len hD hk) hk hI.own
  refine ⟨ho.1, fun i hi => ?_, hI.ent, hI.all, hI.nodup, hI.born, hI.clk⟩
  rw [ho.2 i hi]
  show _ = (if (i : Int) ∈ (S ++ [p]).map (fun p : IE => p.1) then D.cont i else D.dur i)
  show (if i = k then D.cont k else (if (i : Int) ∈ S.map (fun p : IE => p.1) then D.cont i else D.dur i)) = _
  simp only [List.map_append, List.map_cons, List.map_nil, List.mem_append, List.mem_singleton, hp]
  by_cases h : i = k
  · subst h; rw [if_pos rfl, if_pos (.inr rfl)]
  · rw [if_neg h]
    have : ¬ ((i : Int) = (k : Int)) := by omega
    simp only [this, or_false]
theorem flS_all {D : Dsk} {S : List IE} {bs : List UInt8} {es : List Ent} {clk : Nat} {hq : Hp} (hI : (flS D S).In bs es clk hq) (hf : leftL (es.map Ent.ie) (S.map fun p : IE => p.2.2) = []) (hS : ∀ p ∈ S, p ∈ es.map Ent.ie) : Dsk.In { D with dur := D.cont, ver := fun _ => [] } bs [] clk hq := by
  have key : ∀ i, i < D.n → (flS D S).dur i = D.cont i := fun i hi => by
    simp only [flS]
    split
    · rfl
    · rename_i hn
      by_cases hv : D.ver i = []
      · exact (cont_nil hv).symm
      · obtain ⟨e, he, hk⟩ := hI.all i hi hv
        exfalso
        have hm : e.ie ∈ es.map Ent.ie := List.mem_map_of_mem he
        by_cases q : e.born ∈ S.map fun p : IE => p.2.2
        · obtain ⟨p, hp, hb⟩ := List.mem_map.1 q
          obtain ⟨e', he', rfl⟩ := List.mem_map.1 (hS p hp)
          obtain ⟨i1, h1⟩ := List.getElem?_of_mem he
          obtain ⟨i2, h2⟩ := List.getElem?_of_mem he'
          have := nodup_idx hI.born h1 h2 hb.symm
          subst this
          rw [h1] at h2; cases h2
          exact hn (List.mem_map.2 ⟨_, hp, by show (e.key : Int) = i; omega⟩)
        · have : e.ie ∈ leftL (es.map Ent.ie) (S.map fun p : IE => p.2.2) := by
            simp only [leftL, List.mem_filter]
            exact ⟨hm, by simpa [Ent.ie] using q⟩
          rw [hf] at this; cases this
  exact ⟨hI.len, fun i hi => (hI.own i hi).trans (key i hi), fun e he => (by cases he), fun i hi h => absurd rfl h, by simp, by simp, fun e he => (by cases he)⟩
theorem cl_ok {D : Dsk} (hD : D.Ok) {f : Nat → List UInt8} (hf : ∀ i, i < D.n → (f i).length = 256) {a b c e : Int} {d : Bool} (ha : 0 ≤ a ∧ a ≤ 1099511627776) (hb : 0 ≤ b ∧ b ≤ 1099511627776) (hc : 0 ≤ c ∧ c ≤ 1099511627776) (he : 0 ≤ e ∧ e ≤ 1099511627776) : Dsk.Ok ⟨D.n, f, fun _ => [], a, b, c, d, e⟩ :=
  ⟨hD.n1, hD.n2, hf, fun i hi p hp => (by cases hp), ha, hb, hc, he⟩
theorem cr_step {D : Dsk} {f : Nat → List UInt8} {bs : List UInt8} {es : List Ent} {clk : Nat} {hq : Hp} (hI : Dsk.In { D with dur := f } bs es clk hq) {p : List UInt8} (hp : p.length = 256) {k : Nat} (hk : k < D.n) : Dsk.In { D with dur := fun i => if i = k then p else f i } (bs.take (k * 256) ++ p ++ bs.drop (k * 256 + 256)) es clk hq := by
  have ho := own_put hI.len hp hk hI.own
  exact ⟨ho.1, ho.2, hI.ent, hI.all, hI.nodup, hI.born, hI.clk⟩
theorem cr_end {D : Dsk} {f : Nat → List UInt8} {bs : List UInt8} {es : List Ent} {clk : Nat} {hq : Hp} (hI : Dsk.In { D with dur := f } bs es clk hq) {a b c e : Int} {d : Bool} : Dsk.In ⟨D.n, f, fun _ => [], a, b, c, d, e⟩ bs [] clk hq :=
  ⟨hI.len, hI.own, fun e he => (by cases he), fun i hi h => absurd rfl h, by simp, by simp, fun e he => (by cases he)⟩
set_option maxHeartbeats 1000000 in
theorem flush_c (pd : Nat) (D : Dsk) : Cn Tryz.prog 60 [.pointer (some ⟨pd, 0, none⟩)] [diskA pd D] (fun v Γ => ((D.f3 = 1 ∨ (D.cut = true ∧ D.left = 0)) ∧ v = .int .i64 12 ∧ Γ = [diskA pd { D with f3 := tick D.f3 }]) ∨ (¬ (D.f3 = 1 ∨ (D.cut = true ∧ D.left = 0)) ∧ v = .int .i64 0 ∧ Γ = [diskA pd D.fl])) := by
 intro z R w H'; have H : Sep z (diskA pd D :: R) w := H'
 clear H'; obtain ⟨bd, m, f0, bs, es, clk, hq, hD, hIn, H'⟩ := H.disk; clear H; have hn1 := hD.n1; have hn2 := hD.n2; have hf1 := hD.f1; have hf2 := hD.f2; have hf3 := hD.f3; have hlf := hD.left; have hbl := hIn.len
 have H := H'.l5; clear H'; have hold : ∀ p ∈ es.map Ent.ie, p.2.2 < clk := fun p hp => by obtain ⟨e, he, rfl⟩ := List.mem_map.1 hp; exact hIn.clk e he
 have hmm : (es.map Ent.ie).map (fun p : IE => p.2.2) = es.map Ent.born := by rw [List.map_map]; rfl
 have hn : ((es.map Ent.ie).map fun p : IE => p.2.2).Nodup := by rw [hmm]; exact hIn.born
 refine enter Tryz.func60 rfl 44 Tryz.ntmps60 rfl (k_seq (s_region (s_M 1 rfl rfl (s_end (k_seq (k_seq (s_region (s_M 1 rfl rfl (s_C rfl rfl rfl rfl rfl (fun w => Tryz.call96 _ w) (fails3_c _ _ _ _ _ _ _ _ _ _ (by omega)) H rfl ?_))))))))); rintro _ w _ ⟨rfl, rfl⟩ H'; have H := H'.l5; clear H'; refine s_M 1 rfl rfl (s_part 7 rfl (fun h1 => ?_) (fun h1 => ?_))
 ·refine s_M 3 rfl rfl (s_end (k_true rfl (k_seq (s_region (s_M 1 rfl rfl (s_end (k_ret (doneL rfl [.int .i64 12] ⟨rfl, trivial⟩ (v := .int .i64 12) rfl ?_)))))))); have H' := Sep.toDisk (D := { D with f3 := tick D.f3 }) (pd := pd) (bd := bd) (m := m) (f0 := f0) (bs := bs) (es := es) (clk := clk) (hq := hq) (Γ := R) H (hD.f hD.f1 hD.f2 (tick_in hD.f3) hD.left) (hIn.f _ _ _ _ _)
  have H := H'.l1; clear H'; exact ⟨[diskA pd { D with f3 := tick D.f3 }], .inl ⟨by simp_all, rfl, rfl⟩, H⟩
 ·refine s_M 1 rfl rfl (s_C rfl rfl rfl rfl rfl (fun w => Tryz.call102 _ w) (down_c _ _ _ _ _ _ _ _ _ _) H rfl ?_); rintro _ w _ ⟨rfl, rfl⟩ H'; have H := H'.l5; clear H'; refine s_M 1 rfl rfl (s_end (k_cond rfl (fun h2 => ?_) (fun h2 => ?_)))
  ·refine k_seq (s_region (s_M 1 rfl rfl (s_end (k_ret (doneL rfl [.int .i64 12] ⟨rfl, trivial⟩ (v := .int .i64 12) rfl ?_))))); have H' := Sep.toDisk (D := { D with f3 := tick D.f3 }) (pd := pd) (bd := bd) (m := m) (f0 := f0) (bs := bs) (es := es) (clk := clk) (hq := hq) (Γ := R) H (hD.f hD.f1 hD.f2 (tick_in hD.f3) hD.left) (hIn.f _ _ _ _ _)
   have H := H'.l1; clear H'; exact ⟨[diskA pd { D with f3 := tick D.f3 }], .inl ⟨by simp_all, rfl, rfl⟩, H⟩
  ·refine k_skip (k_seq (k_seq (s_region (s_L 4 [1, 0] (mm1 (H.blk 0 rfl) mm0) rfl (by kernel_rfl) rfl (s_go rfl rfl rfl (n_range 2 (e := 82) H rfl rfl (by kernel_rfl) rfl) ?_))))); rintro _ w ⟨rr, rfl, H'⟩; have H := H'.l6; clear H'; refine s_end (k_block ?_); refine c_loop (σ := List IE × List UInt8) (fun ⟨S, bs2⟩ => [(0, .pointer (some ⟨pd, 0, none⟩)), (2, .int .i64 0), (15, .pointer (some ⟨rr, 0, none⟩))])
     (fun ⟨S, bs2⟩ w => Sep z (itB rr m clk (S.map fun p : IE => p.2.2) :: blk pd [.slice (some ⟨bd, 0, none⟩) (D.n * 256) (D.n * 256), .map (some m), .int .i64 f0, .int .i64 D.f1, .int .i64 D.f2, .int .i64 (if D.f3 = 0 then 0 else D.f3 - 1), .bool D.cut, .int .i64 D.left] 120 :: blk bd (bs2.map u8) 5 :: mapB m (es.map Ent.ie) clk :: poolA hq :: seps (es.map Ent.row) :: R) w ∧ ((∀ p ∈ S, p ∈ es.map Ent.ie) ∧ (flS D S).In bs2 es clk hq)) (fun ⟨S, bs2⟩ => (leftL (es.map Ent.ie) (S.map fun p : IE => p.2.2)).length) ⟨[], bs⟩
     (fun _ hF => (hF.all rfl)) ⟨H, fun p hp => absurd hp (by simp), by rw [flS_nil]; exact hIn⟩ ?_
   clear H; rintro ⟨S, bs2⟩ w ⟨H', hI⟩; dsimp only at hI H' ⊢
   have H := H'.l6; clear H'; obtain ⟨hS, hIn2⟩ := hI; refine k_seq (s_region (s_go rfl rfl rfl (n_next 0 3 H rfl rfl rfl rfl hold) ?_)); rintro _ w ⟨qx, rfl, hqx, H'⟩; have H := H'.l6; clear H'; refine s_do rfl rfl rfl (d_nx0 rfl rfl) (s_end (k_seq (k_cond rfl (fun h3 => ?_) (fun h3 => ?_))))
   ·obtain ⟨p1, rfl⟩ := Option.isSome_iff_exists.1 h3; refine k_skip (k_block (k_seq (s_region ?_))); obtain ⟨⟨ke, ve, pvs, ps, bo⟩, hee, rfl⟩ := List.mem_map.1 (leftL_mem hqx).1; obtain ⟨he1, he2, he3, he4, he5⟩ := hIn2.ent _ hee; obtain ⟨ao, cc, hve⟩ := H.says 5 rfl (fun h q => (ent_row hee q).slc); dsimp only at hve he1 he2 he3 he4 he5
    subst hve; have hrow := H.rd 5 rfl (fun h q => ent_row hee q)
    have hpm := H.says 5 rfl (fun h q => (ent_row hee q).small)
    dsimp only at hpm
    have hpl0 : 0 < pvs.length := by rw [he3]; exact List.length_pos_iff.2 he4
    have hken : ke < D.n := he1
    obtain ⟨pv, hpv⟩ : ∃ pv, pvs[pvs.length - 1]? = some pv := ⟨_, List.getElem?_eq_getElem (by omega)⟩; obtain ⟨p, hp⟩ : ∃ p, ps[pvs.length - 1]? = some p := ⟨_, List.getElem?_eq_getElem (by omega)⟩; have hcp : D.cont ke = p := cont_last (n := pvs.length) (by rw [he3, he2]; rfl) (by rw [show D.ver ke = ps from he2.symm]; exact hp)
    obtain ⟨hp256, hprd⟩ := he5 _ _ _ hpv hp; have hat := hrow.at hpv
    refine s_do rfl rfl rfl (d_entry (p := (Ent.ie ⟨ke, .slice ao pvs.length cc, pvs, ps, bo⟩)) rfl rfl (here ⟨H.bk 0 rfl, H.bk 3 rfl⟩) (List.mem_map_of_mem hee) hn) (s_M 4 rfl rfl (s_end (l_region (Sep z (itB rr m clk (nxS (S.map fun p : IE => p.2.2) (some (Ent.ie ⟨ke, .slice ao pvs.length cc, pvs, ps, bo⟩))) :: blk pd [.slice (some ⟨bd, 0, none⟩) (D.n * 256) (D.n * 256), .map (some m), .int .i64 f0, .int .i64 D.f1, .int .i64 D.f2, .int .i64 (if D.f3 = 0 then 0 else D.f3 - 1), .bool D.cut, .int .i64 D.left] 120 :: blk bd (bs2.map u8) 5 :: mapB m (es.map Ent.ie) clk :: poolA hq :: seps (es.map Ent.row) :: R)) 10 rfl (by kernel_rfl) (fun w' x' _ => ?_)))); have H' := H.ext0 x'; clear x' H; revert H'; generalize w' = w; intro H'
    have H := H'.l6; clear H'; refine l_L [0, 1, 3, 4] [] (by kernel_rfl) (fun _ _ => mm0) (by exact (H.pick 6 [0, 1, 2, 3, 4, 5] rfl)) rfl (by kernel_rfl) rfl rfl (l_do 5 (by kernel_rfl) rfl rfl (by kernel_rfl) (by kernel_rfl) (by kernel_rfl) rfl rfl rfl (d_len rfl (z := 1) (by kernel_rfl) rfl) (H.pick 6 [0, 1, 2, 3, 4, 5] rfl) (l_do 6 (by kernel_rfl) rfl rfl (by kernel_rfl) (by kernel_rfl) (by kernel_rfl) rfl rfl rfl (d_sub64 rfl rfl rfl (r := ((pvs.length - 1 : Nat) : Int)) (by omega) (by omega)) (H.pick 6 [0, 1, 2, 3, 4, 5] rfl) (l_do 7 (by kernel_rfl) rfl rfl (by kernel_rfl) (by kernel_rfl) (by kernel_rfl) rfl rfl rfl (d_indexE rfl (z := 1) (j := (pvs.length - 1)) (r := (pvs.length - 1)) (by kernel_rfl) rfl rfl rfl (by omega) hat (by omega)) (H.pick 6 [0, 1, 2, 3, 4, 5] rfl) (l_do 8 (by kernel_rfl) rfl rfl (by kernel_rfl) (by kernel_rfl) (by kernel_rfl) rfl rfl rfl (d_loadE rfl rfl (by kernel_rfl) (fun _ hx => (hx.rd 5 rfl (fun h q => ent_row hee q)).at hpv)) (H.pick 6 [0, 1, 2, 3, 4, 5] rfl) (l_all [2] (by kernel_rfl) (by simp) (all1 (o_C rfl rfl rfl rfl rfl rfl (fun w => Tryz.call62 _ w) (own_c _ _ _ _ _ _ _ _ _ _ ke (by omega) (by omega)) H.f1 rfl ?_))))))); rintro _ w _ ⟨rfl, rfl⟩ H'; have H := H'.l6; clear H'; refine l_and (fun _ => (H.pick 6 [1, 0, 2, 3, 4, 5] rfl)) (l_all [9] (by kernel_rfl) (by simp) (all1 (o_go rfl rfl rfl rfl (n_copy 2 H rfl rfl (by kernel_rfl) rfl rfl (m := 256) (news := (p.map u8)) (.inl (H.rd 4 rfl (fun h q => hprd.le q))) (by simp [u8, Value.oneCell']) (by have := hIn2.len; simp; omega) (k := 256) (by omega) (out := ((bs2.take (ke * 256) ++ p ++ bs2.drop (ke * 256 + 256)).map u8)) (by simp [hp256, List.take_of_length_le])) ?_)))
    rintro _ w ⟨rfl, H'⟩; have H := H'.l6; clear H'; refine l_and (fun h => absurd rfl h) (l_done (by kernel_rfl) ?_); replace H := H.f5.f5.f5.f5.f4.f5; intro _ hF; refine ⟨⟨S ++ [(Ent.ie ⟨ke, .slice ao pvs.length cc, pvs, ps, bo⟩)], (bs2.take (ke * 256) ++ p ++ bs2.drop (ke * 256 + 256))⟩, (hF.all rfl), ⟨(by dsimp only; rw [List.map_append]; exact H), ?_⟩, ?_⟩
    ·refine ⟨fun p hp => ?_, ?_⟩
     ·rcases List.mem_append.1 hp with hp | hp
      ·exact hS p hp
      ·simp at hp; subst hp; exact List.mem_map_of_mem hee
     ·have := flS_step hD hIn2 (p := (Ent.ie ⟨ke, .slice ao pvs.length cc, pvs, ps, bo⟩)) (k := ke) rfl hken
      rwa [hcp] at this
    ·(dsimp only; have := leftL_less hqx; rwa [show (S ++ [(Ent.ie ⟨ke, .slice ao pvs.length cc, pvs, ps, bo⟩)]).map (fun p : IE => p.2.2) = (S.map fun p : IE => p.2.2) ++ [bo] from by simp [Ent.ie]])
   ·obtain rfl : qx = none := by simpa using h3
    refine k_exit (k_here (k_seq ?_)); have hfin := flS_all hIn2 hqx hS
    refine s_region (s_L 4 [1, 0] (mm1 (H.blk 1 rfl) mm0) rfl (by kernel_rfl) rfl (s_go0 rfl rfl (n_clear 3 (e := 82) H rfl rfl (by kernel_rfl) rfl) ?_)); rintro _ w ⟨rfl, H'⟩; have H := H'.l6; clear H'; refine s_end (k_seq (s_region (s_L 5 [7, 0] (mm1 (H.blk 1 rfl) mm0) rfl (by kernel_rfl) rfl (s_do rfl rfl rfl (d_sub64 rfl rfl rfl (r := D.left - 1) (by omega) (by omega)) (s_do rfl rfl rfl (d_max rfl rfl rfl) (s_Q 2 [7] rfl (by kernel_rfl) (s_put rfl rfl (n_store 1 H rfl rfl rfl rfl (vs := [.int .i64 (max (0 : Int) (D.left - 1))]) rfl (by simp [u8, u32, Value.oneCell']) (by kernel_rfl) (by simp) (out := [.slice (some ⟨bd, 0, none⟩) (D.n * 256) (D.n * 256), .map (some m), .int .i64 f0, .int .i64 D.f1, .int .i64 D.f2, .int .i64 (if D.f3 = 0 then 0 else D.f3 - 1), .bool D.cut, .int .i64 (max (0 : Int) (D.left - 1))]) rfl) ?_))))))); rintro w H'; have H := H'.l6; clear H'; refine s_end (k_seq (s_region (s_M 1 rfl rfl (s_end (k_ret (doneL rfl [.int .i64 0] ⟨rfl, trivial⟩ (v := .int .i64 0) rfl ?_)))))); have H' := H.mono 5 (B := seps (([] : List Ent).map Ent.row)) rfl (fun h q => ⟨fun _ => 0, fun i A hi => by simp at hi⟩)
    have H := H'.l6; clear H'; replace H := H.f5.f5.f5.f5.f5; have H' := Sep.toDisk (D := D.fl) (pd := pd) (bd := bd) (m := m) (f0 := f0) (bs := bs2) (es := ([] : List Ent)) (clk := clk) (hq := hq) (Γ := itB rr m clk (nxS (S.map fun p : IE => p.2.2) none) :: R) H (cl_ok hD (fun i hi => Dsk.cont_len hD hi) hD.f1 hD.f2 (tick_in hD.f3) (by omega)) (hfin.f _ _ _ _ _)
    have H := H'.l2; clear H'; exact ⟨[diskA pd D.fl], .inr ⟨by simp_all, rfl, rfl⟩, H.perm 2 [0] rfl rfl⟩
set_option maxHeartbeats 1000000 in
theorem crash_c (pd : Nat) (D : Dsk) (v : Value) (ps : List Int) (A : Asn) (hA : ∀ h, A h → rdH 1 v ps.length (ps.map (Value.int .i64)) h) (hver : ∀ i, (D.ver i).length ≤ 1000000000000) : Cn Tryz.prog 25 [.pointer (some ⟨pd, 0, none⟩), v] [diskA pd D, A] (fun v Γ => ∃ D2 : Dsk, Crashed D D2 ∧ (D2.f1 = 0 ∧ D2.f2 = 0 ∧ D2.f3 = 0 ∧ D2.cut = false ∧ D2.left = D.left) ∧ v = .tuple #[] ∧ Γ = [diskA pd D2, A]) := by
 intro z R w H'; have H : Sep z (diskA pd D :: A :: R) w := H'
 clear H'; obtain ⟨ap, cp, rfl⟩ := H.says 1 rfl (fun h q => (hA h q).slc); have hpsm := H.says 1 rfl (fun h q => (hA h q).small)
 refine enter Tryz.func25 rfl 63 Tryz.ntmps25 rfl (k_seq (k_seq (s_region (s_M 1 rfl rfl (s_C rfl rfl rfl rfl rfl (fun w => Tryz.call61 _ w) (dirty_c _ _) H rfl ?_))))); rintro v3 w _ ⟨ks, hks, rfl⟩ H'; have H := H'.l3; clear H'; have sv3 := H.says 0 rfl (fun h q => q.slc)
 replace H := H.f1; obtain ⟨bd, m, f0, bs, es, clk, hq, hD, hIn, H'⟩ := H.disk; clear H; have hn1 := hD.n1; have hn2 := hD.n2; have hf1 := hD.f1; have hf2 := hD.f2; have hf3 := hD.f3; have hlf := hD.left; have hbl := hIn.len
 have H := H'.l7; clear H'; have hksm := H.says 5 rfl (fun h q => q.rd.small)
 obtain ⟨ao3, c3, rfl⟩ := sv3; have H : Sep z (blk pd [.slice (some ⟨bd, 0, none⟩) (D.n * 256) (D.n * 256), .map (some m), .int .i64 f0, .int .i64 D.f1, .int .i64 D.f2, .int .i64 D.f3, .bool D.cut, .int .i64 D.left] 120 :: blk bd (bs.map u8) 5 :: mapB m (es.map Ent.ie) clk :: poolA hq :: seps (es.map Ent.row) :: grow 3 1 (.slice ao3 ks.length c3) ks.length (ks.map (Value.int .i64)) :: A :: R) w := H
 refine s_do rfl rfl rfl (d_len rfl (z := 1) (by kernel_rfl) rfl) (s_M 1 rfl rfl (s_end (k_block ?_))); refine c_loop (σ := Nat × List UInt8 × (Nat → List UInt8)) (fun ⟨j, bs2, f⟩ => [(12, .int .i64 (j : Int)), (0, .pointer (some ⟨pd, 0, none⟩)), (1, .slice ap ps.length cp), (10, .slice ao3 ks.length c3), (11, .int .i64 (ks.length : Int))])
   (fun ⟨j, bs2, f⟩ w => Sep z (blk pd [.slice (some ⟨bd, 0, none⟩) (D.n * 256) (D.n * 256), .map (some m), .int .i64 f0, .int .i64 D.f1, .int .i64 D.f2, .int .i64 D.f3, .bool D.cut, .int .i64 D.left] 120 :: blk bd (bs2.map u8) 5 :: mapB m (es.map Ent.ie) clk :: poolA hq :: seps (es.map Ent.row) :: grow 3 1 (.slice ao3 ks.length c3) ks.length (ks.map (Value.int .i64)) :: A :: R) w ∧ (j ≤ ks.length ∧ (∀ i, Has D i (f i)) ∧ Dsk.In { D with dur := f } bs2 es clk hq)) (fun ⟨j, bs2, f⟩ => ks.length - j) ⟨0, bs, D.dur⟩
   (fun _ hF => (hF.co rfl (by go_num) (hF.all rfl))) ⟨H, by omega, fun i => .inl rfl, hIn⟩ ?_
 clear H; rintro ⟨j, bs2, f⟩ w ⟨H', hI⟩; dsimp only at hI H' ⊢
 have H := H'.l7; clear H'; obtain ⟨hjn, hf, hIn2⟩ := hI; refine k_seq (s_region (s_M 1 rfl rfl (s_end (k_seq (k_dec rfl (fun h1 => ?_) (fun h1 => ?_))))))
 ·have hjlt : j < ks.length := by omega
  refine k_skip (k_seq (k_block (k_seq (s_region ?_)))); obtain ⟨x, hx⟩ : ∃ x, ks[j]? = some x := ⟨_, List.getElem?_eq_getElem (by omega)⟩; have hxk := (hks.2 x).1 (List.mem_of_getElem? hx)
  obtain ⟨k, rfl⟩ : ∃ k : Nat, x = (k : Int) := ⟨x.toNat, by omega⟩; have hk : k < D.n := by omega
  have hat3 := (H.rd 5 rfl (fun h q => q.rd)).at (j := j) (u := .int .i64 (k : Int)) (by simp [hx])
  obtain ⟨v0, pvs, hgv, hpl, hrow, hpool⟩ := row_of hIn2 hk; obtain ⟨ao, cc0, rfl⟩ := H.says 4 rfl (fun h q => (hrow h q).slc); have hpm := H.says 4 rfl (fun h q => (hrow h q).small)
  refine s_M 1 rfl rfl (s_do rfl rfl rfl (d_indexE rfl (z := 1) (j := j) (r := j) (by kernel_rfl) rfl rfl rfl (by omega) hat3 (by omega)) (s_do rfl rfl rfl (d_loadE rfl rfl (by kernel_rfl) (here hat3)) (s_M 2 rfl rfl (s_end (k_seq (s_region (s_L 5 [1, 0] (mm1 (H.blk 0 rfl) mm0) rfl (by kernel_rfl) rfl (s_do rfl rfl rfl (d_lookup (e := 82) (zv := .slice none 0 0) rfl (by kernel_rfl) (by kernel_rfl) rfl rfl (here (H.bk 2 rfl))) (k_updA 22 (u := (getM (es.map Ent.ie) (k : Int)).getD (.slice none 0 0)) (v := .slice ao pvs.length cc0) rfl hgv (s_M 1 rfl rfl (s_end (k_seq (k_seq ?_))))))))))))); refine s_region (s_M 2 rfl rfl (s_do rfl rfl rfl (d_len rfl (z := 1) (by kernel_rfl) rfl) (s_M 1 rfl rfl (s_end (k_dec rfl (fun h2 => ?_) (fun h2 => ?_))))))
  ·refine k_exit (k_out rfl (k_here (k_seq (s_region (s_L 4 [1, 0] (mm1 (H.blk 0 rfl) mm0) rfl (by kernel_rfl) rfl (s_go0 rfl rfl (n_clear 2 (e := 82) H rfl rfl (by kernel_rfl) rfl) ?_)))))); rintro _ w ⟨rfl, H'⟩; have H := H'.l7; clear H'; refine s_end (k_seq (s_region (s_M 1 rfl rfl (s_do rfl rfl rfl (d_build rfl rfl (out := [.int .i64 0, .int .i64 0, .int .i64 0, .int .i64 0]) (by kernel_rfl)) (s_Q 2 [2] rfl (by kernel_rfl) (s_put rfl rfl (n_store 0 H rfl rfl rfl rfl (vs := [.int .i64 0, .int .i64 0, .int .i64 0, .int .i64 0]) rfl (by simp [u8, u32, Value.oneCell']) (by kernel_rfl) (by simp) (out := [.slice (some ⟨bd, 0, none⟩) (D.n * 256) (D.n * 256), .map (some m), .int .i64 0, .int .i64 0, .int .i64 0, .int .i64 0, .bool D.cut, .int .i64 D.left]) rfl) ?_)))))); rintro w H'; have H := H'.l7; clear H'; refine s_end (s_region (s_Q 3 [6] rfl (by kernel_rfl) (s_put rfl rfl (n_store 0 H rfl rfl rfl rfl (vs := [.bool false]) rfl (by simp [u8, u32, Value.oneCell']) (by kernel_rfl) (by simp) (out := [.slice (some ⟨bd, 0, none⟩) (D.n * 256) (D.n * 256), .map (some m), .int .i64 0, .int .i64 0, .int .i64 0, .int .i64 0, .bool false, .int .i64 D.left]) rfl) ?_))); rintro w H'; have H := H'.l7; clear H'; refine s_end (doneL rfl [] trivial (v := .tuple #[]) rfl ?_); have H' := H.mono 4 (B := seps (([] : List Ent).map Ent.row)) rfl (fun h q => ⟨fun _ => 0, fun i A hi => by simp at hi⟩)
   have H := H'.l7; clear H'; have H' := Sep.toDisk (D := (⟨D.n, f, fun _ => [], 0, 0, 0, false, D.left⟩ : Dsk)) (pd := pd) (bd := bd) (m := m) (f0 := 0) (bs := bs2) (es := ([] : List Ent)) (clk := clk) (hq := hq) (Γ := grow 3 1 (.slice ao3 ks.length c3) ks.length (ks.map (Value.int .i64)) :: A :: R) H (cl_ok hD (fun i hi => (by rcases hf i with h | h; rw [h]; exact hD.dur i hi; exact hD.ver i hi _ h)) (by omega) (by omega) (by omega) hD.left) (cr_end hIn2)
   have H := H'.l3; clear H'; exact ⟨[diskA pd ⟨D.n, f, fun _ => [], 0, 0, 0, false, D.left⟩, A], ⟨⟨D.n, f, fun _ => [], 0, 0, 0, false, D.left⟩, ⟨rfl, fun _ => rfl, hf⟩, ⟨rfl, rfl, rfl, rfl, rfl⟩, rfl, rfl⟩, H.perm 3 [0, 2] rfl rfl⟩
  ·refine k_skip (k_seq ?_); have hvl : pvs.length ≤ 1000000000000 := by have h1 := hver k; have h2 : pvs.length = (D.ver k).length := hpl; omega
   refine s_region (s_M 1 rfl rfl (s_do rfl rfl rfl (d_len rfl (z := 1) (by kernel_rfl) rfl) (s_do rfl rfl rfl (d_add64 rfl rfl rfl (r := ((pvs.length : Nat) : Int) + 1) (by omega) (by omega)) (s_M 1 rfl rfl (s_end (k_seq (s_region ?_))))))); obtain ⟨y, hy⟩ : ∃ y, ps[j]? = some y := ⟨_, List.getElem?_eq_getElem (by omega)⟩; have hatp := (H.rd 6 rfl hA).at (j := j) (u := .int .i64 y) (by simp [hy])
   have hm1 := Int.tmod_lt_of_pos y (by omega : (0 : Int) < ((pvs.length : Nat) : Int) + 1)
   have hm2 := Int.lt_tmod_of_pos y (by omega : (0 : Int) < ((pvs.length : Nat) : Int) + 1)
   have hm3 := Int.tmod_lt_of_pos (y.tmod (((pvs.length : Nat) : Int) + 1) + (((pvs.length : Nat) : Int) + 1)) (by omega : (0 : Int) < ((pvs.length : Nat) : Int) + 1)
   have hm4 := Int.tmod_nonneg (((pvs.length : Nat) : Int) + 1) (by omega : (0 : Int) ≤ y.tmod (((pvs.length : Nat) : Int) + 1) + (((pvs.length : Nat) : Int) + 1))
   obtain ⟨t, ht, htl⟩ : ∃ t : Nat, (y.tmod (((pvs.length : Nat) : Int) + 1) + (((pvs.length : Nat) : Int) + 1)).tmod (((pvs.length : Nat) : Int) + 1) = (t : Int) ∧ t < pvs.length + 1 := ⟨((y.tmod (((pvs.length : Nat) : Int) + 1) + (((pvs.length : Nat) : Int) + 1)).tmod (((pvs.length : Nat) : Int) + 1)).toNat, by omega, by omega⟩; refine s_M 2 rfl rfl (s_do rfl rfl rfl (d_indexE rfl (z := 1) (j := j) (r := j) (by kernel_rfl) rfl rfl rfl (by omega) hatp (by omega)) (s_do rfl rfl rfl (d_loadE rfl rfl (by kernel_rfl) (here hatp)) (s_M 1 rfl rfl (s_do rfl rfl rfl (d_rem rfl rfl rfl (by omega)) (s_M 1 rfl rfl (s_do rfl rfl rfl (d_add64 rfl rfl rfl (r := y.tmod (((pvs.length : Nat) : Int) + 1) + (((pvs.length : Nat) : Int) + 1)) (by omega) (by omega)) (s_M 1 rfl rfl (s_do rfl rfl rfl (d_rem rfl rfl rfl (by omega)) (k_updA 39 (u := .int .i64 ((y.tmod (((pvs.length : Nat) : Int) + 1) + (((pvs.length : Nat) : Int) + 1)).tmod (((pvs.length : Nat) : Int) + 1))) (v := .int .i64 (t : Int)) rfl (congrArg (Value.int .i64) ht) (s_M 1 rfl rfl (s_end (k_seq (s_region ?_))))))))))))); refine s_M 2 rfl rfl (s_end (k_dec rfl (fun h3 => ?_) (fun h3 => ?_)))
   ·obtain ⟨pv, hpv⟩ : ∃ pv, pvs[t - 1]? = some pv := ⟨_, List.getElem?_eq_getElem (by omega)⟩; obtain ⟨p, hp⟩ : ∃ p, (D.ver k)[t - 1]? = some p := ⟨_, List.getElem?_eq_getElem (by have : pvs.length = (D.ver k).length := hpl; omega)⟩; have hp256 := hD.ver k hk p (List.mem_of_getElem? hp)
    have hat := (H.rd 4 rfl hrow).at hpv
    refine l_region (Sep z (blk pd [.slice (some ⟨bd, 0, none⟩) (D.n * 256) (D.n * 256), .map (some m), .int .i64 f0, .int .i64 D.f1, .int .i64 D.f2, .int .i64 D.f3, .bool D.cut, .int .i64 D.left] 120 :: blk bd (bs2.map u8) 5 :: mapB m (es.map Ent.ie) clk :: poolA hq :: seps (es.map Ent.row) :: grow 3 1 (.slice ao3 ks.length c3) ks.length (ks.map (Value.int .i64)) :: A :: R)) 9 rfl (by kernel_rfl) (fun w' x' _ => ?_); have H' := H.ext0 x'; clear x' H; revert H'; generalize w' = w; intro H'
    have H := H'.l7; clear H'; refine l_L [0, 1, 3, 4] [] (by kernel_rfl) (fun _ _ => mm0) (by exact (H.pick 7 [0, 1, 2, 3, 4, 5, 6] rfl)) rfl (by kernel_rfl) rfl rfl (l_do 5 (by kernel_rfl) rfl rfl (by kernel_rfl) (by kernel_rfl) (by kernel_rfl) rfl rfl rfl (d_sub64 rfl rfl rfl (r := ((t - 1 : Nat) : Int)) (by omega) (by omega)) (H.pick 7 [0, 1, 2, 3, 4, 5, 6] rfl) (l_do 6 (by kernel_rfl) rfl rfl (by kernel_rfl) (by kernel_rfl) (by kernel_rfl) rfl rfl rfl (d_indexE rfl (z := 1) (j := (t - 1)) (r := (t - 1)) (by kernel_rfl) rfl rfl rfl (by omega) hat (by omega)) (H.pick 7 [0, 1, 2, 3, 4, 5, 6] rfl) (l_do 7 (by kernel_rfl) rfl rfl (by kernel_rfl) (by kernel_rfl) (by kernel_rfl) rfl rfl rfl (d_loadE rfl rfl (by kernel_rfl) (fun _ hx => (hx.rd 4 rfl hrow).at hpv)) (H.pick 7 [0, 1, 2, 3, 4, 5, 6] rfl) (l_all [2] (by kernel_rfl) (by simp) (all1 (o_C rfl rfl rfl rfl rfl rfl (fun w => Tryz.call62 _ w) (own_c _ _ _ _ _ _ _ _ _ _ k (by omega) (by omega)) H rfl ?_)))))); rintro _ w _ ⟨rfl, rfl⟩ H'; have H := H'.l7; clear H'; refine l_and (fun _ => (H.pick 7 [0, 1, 2, 3, 4, 5, 6] rfl)) (l_all [8] (by kernel_rfl) (by simp) (all1 (o_go rfl rfl rfl rfl (n_copy 1 H rfl rfl (by kernel_rfl) rfl rfl (m := 256) (news := (p.map u8)) (.inl (H.rd 3 rfl (hpool _ _ _ hpv hp))) (by simp [u8, Value.oneCell']) (by have : bs2.length = D.n * 256 := hIn2.len; simp; omega) (k := 256) (by omega) (out := ((bs2.take (k * 256) ++ p ++ bs2.drop (k * 256 + 256)).map u8)) (by simp [hp256, List.take_of_length_le])) ?_))); rintro _ w ⟨rfl, H'⟩; have H := H'.l7; clear H'; refine l_and (fun h => absurd rfl h) (l_done (by kernel_rfl) (s_region (s_do rfl rfl rfl (d_add64 rfl rfl rfl (r := (j : Int) + 1) (by omega) (by omega)) (s_M 1 rfl rfl (s_end ?_)))))
    intro _ hF; refine ⟨⟨j + 1, (bs2.take (k * 256) ++ p ++ bs2.drop (k * 256 + 256)), fun i => if i = k then p else f i⟩, (hF.co rfl (by go_num) (hF.all rfl)), ⟨H, ?_⟩, ?_⟩
    ·refine ⟨by omega, fun i => ?_, cr_step hIn2 hp256 hk⟩; dsimp only; split
     ·rename_i e; subst e; exact .inr (List.mem_of_getElem? hp)
     ·exact hf i
    ·(dsimp only; omega)
   ·refine k_skip (s_region (s_do rfl rfl rfl (d_add64 rfl rfl rfl (r := (j : Int) + 1) (by omega) (by omega)) (s_M 1 rfl rfl (s_end ?_)))); intro _ hF; refine ⟨⟨j + 1, bs2, f⟩, (hF.co rfl (by go_num) (hF.all rfl)), ⟨H, ?_⟩, ?_⟩
    ·exact ⟨by omega, hf, hIn2⟩
    ·(dsimp only; omega)
 ·refine k_exit (k_here (k_seq (s_region (s_L 4 [1, 0] (mm1 (H.blk 0 rfl) mm0) rfl (by kernel_rfl) rfl (s_go0 rfl rfl (n_clear 2 (e := 82) H rfl rfl (by kernel_rfl) rfl) ?_))))); rintro _ w ⟨rfl, H'⟩; have H := H'.l7; clear H'; refine s_end (k_seq (s_region (s_M 1 rfl rfl (s_do rfl rfl rfl (d_build rfl rfl (out := [.int .i64 0, .int .i64 0, .int .i64 0, .int .i64 0]) (by kernel_rfl)) (s_Q 2 [2] rfl (by kernel_rfl) (s_put rfl rfl (n_store 0 H rfl rfl rfl rfl (vs := [.int .i64 0, .int .i64 0, .int .i64 0, .int .i64 0]) rfl (by simp [u8, u32, Value.oneCell']) (by kernel_rfl) (by simp) (out := [.slice (some ⟨bd, 0, none⟩) (D.n * 256) (D.n * 256), .map (some m), .int .i64 0, .int .i64 0, .int .i64 0, .int .i64 0, .bool D.cut, .int .i64 D.left]) rfl) ?_)))))); rintro w H'; have H := H'.l7; clear H'; refine s_end (s_region (s_Q 3 [6] rfl (by kernel_rfl) (s_put rfl rfl (n_store 0 H rfl rfl rfl rfl (vs := [.bool false]) rfl (by simp [u8, u32, Value.oneCell']) (by kernel_rfl) (by simp) (out := [.slice (some ⟨bd, 0, none⟩) (D.n * 256) (D.n * 256), .map (some m), .int .i64 0, .int .i64 0, .int .i64 0, .int .i64 0, .bool false, .int .i64 D.left]) rfl) ?_))); rintro w H'; have H := H'.l7; clear H'; refine s_end (doneL rfl [] trivial (v := .tuple #[]) rfl ?_); have H' := H.mono 4 (B := seps (([] : List Ent).map Ent.row)) rfl (fun h q => ⟨fun _ => 0, fun i A hi => by simp at hi⟩)
  have H := H'.l7; clear H'; have H' := Sep.toDisk (D := (⟨D.n, f, fun _ => [], 0, 0, 0, false, D.left⟩ : Dsk)) (pd := pd) (bd := bd) (m := m) (f0 := 0) (bs := bs2) (es := ([] : List Ent)) (clk := clk) (hq := hq) (Γ := grow 3 1 (.slice ao3 ks.length c3) ks.length (ks.map (Value.int .i64)) :: A :: R) H (cl_ok hD (fun i hi => (by rcases hf i with h | h; rw [h]; exact hD.dur i hi; exact hD.ver i hi _ h)) (by omega) (by omega) (by omega) hD.left) (cr_end hIn2)
  have H := H'.l3; clear H'; exact ⟨[diskA pd ⟨D.n, f, fun _ => [], 0, 0, 0, false, D.left⟩, A], ⟨⟨D.n, f, fun _ => [], 0, 0, 0, false, D.left⟩, ⟨rfl, fun _ => rfl, hf⟩, ⟨rfl, rfl, rfl, rfl, rfl⟩, rfl, rfl⟩, H.perm 3 [0, 2] rfl rfl⟩
end Go.Proofs.YtbegkbjigbkljaaGreatDoor
namespace Go.Proofs.YtbegkbjigbkljaaGreatDoor
open Go.RowKit
def wr1 (D : Dsk) (fua : Bool) (i : Nat) (p : List UInt8) : Dsk := { Dsk.ws { D with f2 := tick D.f2 } fua i [p] with left := max 0 (D.left - 1) }
theorem write1_c (pd b off c : Nat) (D : Dsk) (x : Int) (fua : Bool) (p : List UInt8) (A : Asn) (hp : p.length = 256) (hA : ∀ h, A h → rdH 1 (.slice (some ⟨b, off, none⟩) 256 c) 256 (p.map u8) h) (hver : ∀ i, (D.ver i).length ≤ 1099511627776) (hx : 0 ≤ x ∧ x + 1 ≤ (D.n : Int)) :
    Cn Tryz.prog 69 [.pointer (some ⟨pd, 0, none⟩), .int .i64 x, .slice (some ⟨b, off, none⟩) 256 c, .bool fua] [diskA pd D, A] (fun v Γ => (D.bad ∧ v = .int .i64 11 ∧ Γ = [diskA pd D.wf, A]) ∨ (¬ D.bad ∧ v = .int .i64 0 ∧ Γ = [diskA pd (wr1 D fua x.toNat p), A])) := by
  have h := write_c pd b off c D x fua [p] A (by simpa using hp) (by simp) hver (fun h q => by simpa using hA h q)
  refine Cn.mono h ?_
  have hx' : 0 ≤ x ∧ x + (([p] : List (List UInt8)).length : Int) ≤ (D.n : Int) := by simpa using hx
  rintro v Γ (⟨g, _⟩ | ⟨_, g, rfl, rfl⟩ | ⟨_, g, rfl, rfl⟩)
  · exact absurd hx' g
  · exact .inl ⟨g, rfl, rfl⟩
  · exact .inr ⟨fun h => by rcases h with h | h; exact g.1 h; exact g.2 h, rfl, rfl⟩
theorem sizeD_c (pd : Nat) (D : Dsk) : Cn Tryz.prog 68 [.pointer (some ⟨pd, 0, none⟩)] [diskA pd D] (fun v Γ => v = .int .i64 (D.n : Int) ∧ Γ = [diskA pd D]) := by
  refine Cn.mono (Cn.onDisk (post := fun v Γ => v = .int .i64 (D.n : Int) ∧ Γ = []) (pre := []) (fun hD bd m f0 => ?_)) ?_
  · have hn2 := hD.n2
    refine Cn.mono (size_c pd bd m (D.n * 256) f0 D.f1 D.f2 D.f3 D.left D.cut (by omega)) ?_
    rintro v Γ ⟨rfl, rfl⟩
    exact ⟨[], ⟨congrArg (Value.int .i64) (by omega), rfl⟩, rfl⟩
  · rintro v Γ ⟨Γ', ⟨rfl, rfl⟩, rfl⟩
    exact ⟨rfl, rfl⟩
theorem save_c (pd pt : Nat) (D : Dsk) (s : Sup) (hok : s.Ok (D.n : Int)) (hver : ∀ i, (D.ver i).length ≤ 1099511627776) : Cn Tryz.prog 70 [.pointer (some ⟨pd, 0, none⟩), .pointer (some ⟨pt, 0, none⟩), .agg #[.int .i64 s.gen, .int .i64 s.epoch, .int .i64 s.pages, .int .i64 s.start, .int .i64 s.len, .int .i64 s.head, .int .i64 s.seq]] [diskA pd D, tblA pt] (fun v Γ => (D.bad ∧ v = .int .i64 11 ∧ Γ = [diskA pd D.wf, tblA pt]) ∨ (¬ D.bad ∧ v = .int .i64 0 ∧ Γ = [diskA pd (svD D s), tblA pt])) := by
 intro z R w H'; have H : Sep z (diskA pd D :: tblA pt :: R) w := H'
 clear H'; have hn1 := H.says 0 rfl (fun h q => (diskA.ok q).n1)
 have hn2 := H.says 0 rfl (fun h q => (diskA.ok q).n2)
 have hsg := Sup.get hok
 have hok2 := hok.2
 refine enter Tryz.func70 rfl 37 Tryz.ntmps70 rfl (k_seq (s_region (s_go rfl rfl rfl (n_box H rfl rfl (cs := [.int .i64 s.gen, .int .i64 s.epoch, .int .i64 s.pages, .int .i64 s.start, .int .i64 s.len, .int .i64 s.head, .int .i64 s.seq]) rfl) ?_))); rintro _ w ⟨b1, rfl, H'⟩; have H := H'.l3; clear H'; refine s_M 1 rfl rfl (s_end (k_seq (k_seq (q_region (Sep z _) (by kernel_rfl) (by kernel_rfl) H.drew (q_M 1 [] rfl (by kernel_rfl) (q_do rfl rfl rfl (d_eql_pn rfl (by kernel_rfl) rfl rfl) (q_M 2 [] rfl (by kernel_rfl) (q_do rfl rfl rfl (d_eql_pn rfl (by kernel_rfl) rfl rfl) (q_M 2 [] rfl (by kernel_rfl) (q_do rfl rfl rfl (d_loadAgg rfl rfl (vs := [.int .i64 s.gen, .int .i64 s.epoch, .int .i64 s.pages, .int .i64 s.start, .int .i64 s.len, .int .i64 s.head, .int .i64 s.seq]) (by kernel_rfl) (fun _ hx => (hx.blk 0 rfl).part 0 7 _ rfl)) (q_M 1 [] rfl (by kernel_rfl) (q_call rfl rfl rfl rfl rfl (fun w => Tryz.call68 _ w) (v := .int .i64 (D.n : Int)) (cq (sizeD_c _ _) (by rintro _ _ ⟨rfl, rfl⟩; exact ⟨rfl, rfl⟩) 2 [1, 0] [1, 0] rfl rfl rfl rfl) (q_call rfl rfl rfl rfl rfl (fun w => Tryz.call50 _ w) (v := .int .i64 (if s.Ok (D.n : Int) then 0 else 1)) (cq (check_c _ _ (by omega)) (by rintro _ _ ⟨rfl, rfl⟩; exact ⟨rfl, rfl⟩) 0 [] [] rfl rfl rfl rfl) ?_))))))))))))); refine q_M 2 [] rfl (by kernel_rfl) (q_end (fun w H' => ?_)); have H := H'.l3; clear H'; refine k_dec rfl (fun h1 => ?_) (fun h1 => ?_)
 ·exact absurd (if_pos hok) h1
 ·refine k_skip (k_seq (s_region (s_M 1 rfl rfl (s_do rfl rfl rfl (d_loadAgg rfl rfl (vs := [.int .i64 s.gen, .int .i64 s.epoch, .int .i64 s.pages, .int .i64 s.start, .int .i64 s.len, .int .i64 s.head, .int .i64 s.seq]) (by kernel_rfl) (here ((H.blk 0 rfl).part 0 7 _ rfl))) (s_C rfl rfl rfl rfl rfl (fun w => Tryz.call109 _ w) (putSuper_c _ _ (fun x hx => hok.1 x hx)) H.f2 rfl ?_))))); rintro _ w _ ⟨pw, rfl, rfl⟩ H'; have H := H'.l4; clear H'; refine s_M 5 rfl rfl (s_end (k_seq (k_seq (s_region (s_M 2 rfl rfl (k_updA 29 (u := .bool (decide ((0 : Int) ≠ 0))) (v := .bool false) rfl (congrArg Value.bool (by decide)) (s_end (k_false rfl (k_skip (k_seq (s_region (s_L 3 [0, 0] (mm1 (H.blk 2 rfl) mm0) rfl (by kernel_rfl) rfl (s_do rfl rfl rfl (d_rem64 rfl rfl rfl (r := s.gen % 2) (by omega) (by omega) (by omega)) ?_))))))))))))); refine s_M 1 rfl rfl (s_C rfl rfl rfl rfl rfl (fun w => Tryz.call69 _ w) (write1_c _ _ _ _ _ _ _ (supS s) _ (supS_len s) (fun h q => wrC_rd (lo := 0) (n := 256) (c := 256) (ys := supS s) q (supS_len s) (by omega) (by omega) (by omega) (by rw [List.drop_zero]; exact List.take_of_length_le (Nat.le_of_eq (supS_len s)))) hver (by omega)) H.f3 rfl ?_); rintro _ w _ (⟨hbad, rfl, rfl⟩ | ⟨hbad, rfl, rfl⟩) H'
  ·have H := H'.l4; clear H'; refine s_M 1 rfl rfl (s_end (k_ret (doneL rfl [.int .i64 11] ⟨rfl, trivial⟩ (v := .int .i64 11) rfl ?_))); exact ⟨[diskA pd D.wf, tblA pt], .inl ⟨hbad, rfl, rfl⟩, H.perm 4 [0, 2] rfl rfl⟩
  ·have H := H'.l4; clear H'; refine s_M 1 rfl rfl (s_end (k_ret (doneL rfl [.int .i64 0] ⟨rfl, trivial⟩ (v := .int .i64 0) rfl ?_))); exact ⟨[diskA pd (svD D s), tblA pt], .inr ⟨hbad, rfl, rfl⟩, H.perm 4 [0, 2] rfl rfl⟩
end Go.Proofs.YtbegkbjigbkljaaGreatDoor
namespace Go.Proofs.YtbegkbjigbkljaaGreatDoor
open Go.RowKit
set_option maxHeartbeats 1000000 in
theorem load_c (pd pt : Nat) (D : Dsk) (hf1 : D.f1 = 0) (x y0 y1 : Sup) (ho0 : y0.Ok (D.n : Int)) (ho1 : y1.Ok (D.n : Int)) (g0 : y0.gen % 2 = 0) (g1 : y1.gen % 2 = 1) (c0 : D.cont 0 = supS y0) (c1 : D.cont 1 = supS y1) (hx : x = if y0.gen < y1.gen then y1 else y0) : Cn Tryz.prog 64 [.pointer (some ⟨pd, 0, none⟩), .pointer (some ⟨pt, 0, none⟩)] [diskA pd D, tblA pt] (fun v Γ => v = .tuple #[.agg #[.int .i64 x.gen, .int .i64 x.epoch, .int .i64 x.pages, .int .i64 x.start, .int .i64 x.len, .int .i64 x.head, .int .i64 x.seq], .int .i64 0] ∧ Γ = [diskA pd D, tblA pt]) := by
 intro z R w H'; have H : Sep z (diskA pd D :: tblA pt :: R) w := H'
 clear H'; have hn1 := H.says 0 rfl (fun h q => (diskA.ok q).n1)
 have hn2 := H.says 0 rfl (fun h q => (diskA.ok q).n2)
 have hs0 := Sup.get ho0
 have hs1 := Sup.get ho1
 have hp0 := ho0.2
 have hp1 := ho1.2
 refine enter Tryz.func64 rfl 89 Tryz.ntmps64 rfl (k_seq (s_region (s_go rfl rfl rfl (n_alloc (P := Tryz.prog) H rfl (zs := [.int .i64 0, .int .i64 0, .int .i64 0, .int .i64 0, .int .i64 0, .int .i64 0, .int .i64 0]) (by kernel_rfl)) ?_))); rintro _ w ⟨b1, rfl, H'⟩; have H := H'.l3; clear H'; refine s_M 1 rfl rfl (s_end (k_seq (k_seq (s_region (s_M 1 rfl rfl (s_do rfl rfl rfl (d_eql_pn rfl (by kernel_rfl) rfl rfl) (s_M 2 rfl rfl (s_do rfl rfl rfl (d_eql_pn rfl (by kernel_rfl) rfl rfl) (s_M 3 rfl rfl (s_C rfl rfl rfl rfl rfl (fun w => Tryz.call68 _ w) (sizeD_c _ _) H.f1 rfl ?_)))))))))); rintro _ w _ ⟨rfl, rfl⟩ H'; have H := H'.l3; clear H'; refine s_M 2 rfl rfl (s_end (k_dec rfl (fun h1 => ?_) (fun h1 => ?_)))
 ·(exfalso; omega)
 ·refine k_skip (k_seq (s_region (s_go rfl rfl rfl (n_alloc (P := Tryz.prog) H rfl (zs := [.slice none 0 0, .slice none 0 0]) (by kernel_rfl)) ?_))); rintro _ w ⟨b2, rfl, H'⟩; have H := H'.l4; clear H'; refine s_end (k_seq (s_region (s_M 1 rfl rfl (s_end (k_seq (k_seq (s_region (s_M 1 rfl rfl (s_end (k_block (k_rounds 3 (k_round (k_seq ?_))))))))))))); refine s_region (s_M 1 rfl rfl (k_updA 29 (u := .bool (decide ((0 : Int) < 2))) (v := .bool true) rfl (congrArg Value.bool (by decide)) (s_end (k_seq (k_true rfl (k_skip (k_seq (k_block (k_seq (s_region (s_M 2 rfl rfl (s_end (k_seq ?_))))))))))))); refine s_region (s_M 2 rfl rfl (s_C rfl rfl rfl rfl rfl (fun w => Tryz.call58 _ w) (read_c _ _ _) H.f1 rfl ?_)); rintro _ w _ (⟨hx, _, _⟩ | ⟨_, hx, _, _⟩ | ⟨_, _, g0, cap0, rest0, rfl, ⟨cg0, cc0, cl0⟩, rfl⟩) H'
  ·exact absurd ⟨by omega, by omega⟩ hx
  ·(rw [hf1] at hx; cases hx)
  ·rw [diskA.f1 hf1] at H'; have H := H'.l5; clear H'; refine s_M 5 rfl rfl (s_end (s_region (s_M 6 rfl rfl (k_updA 42 (u := .bool (decide ((0 : Int) ≠ 0))) (v := .bool false) rfl (congrArg Value.bool (by decide)) (s_M 1 rfl rfl (s_do rfl rfl rfl (d_indexA (l := 2) rfl (z := 1) (j := 0) (r := 0) (by kernel_rfl) rfl rfl rfl (by omega) (by omega)) (s_put rfl rfl (n_store 2 H rfl rfl rfl rfl (vs := [.slice (some ⟨g0, 0, none⟩) 256 cap0]) rfl (by simp [u8, u32, Value.oneCell']) (by kernel_rfl) (by simp) (out := [.slice (some ⟨g0, 0, none⟩) 256 cap0, .slice none 0 0]) rfl) ?_))))))); rintro w H'; have H := H'.l5; clear H'; refine s_M 1 rfl rfl (s_end (s_region (s_do rfl rfl rfl (d_add64 rfl rfl rfl (r := 1) (by omega) (by omega)) (s_M 1 rfl rfl (s_end (k_round (k_seq (s_region (s_M 1 rfl rfl (k_updA 29 (u := .bool (decide ((1 : Int) < 2))) (v := .bool true) rfl (congrArg Value.bool (by decide)) (s_end (k_seq (k_true rfl ?_))))))))))))); refine k_skip (k_seq (k_block (k_seq (s_region (s_M 2 rfl rfl (s_end (k_seq (s_region (s_M 2 rfl rfl (s_C rfl rfl rfl rfl rfl (fun w => Tryz.call58 _ w) (read_c _ _ _) H.f1 rfl ?_)))))))))); rintro _ w _ (⟨hx, _, _⟩ | ⟨_, hx, _, _⟩ | ⟨_, _, g1, cap1, rest1, rfl, ⟨cg1, cc1, cl1⟩, rfl⟩) H'
   ·exact absurd ⟨by omega, by omega⟩ hx
   ·(rw [hf1] at hx; cases hx)
   ·rw [diskA.f1 hf1] at H'; have H := H'.l6; clear H'; refine s_M 5 rfl rfl (s_end (s_region (s_M 6 rfl rfl (k_updA 42 (u := .bool (decide ((0 : Int) ≠ 0))) (v := .bool false) rfl (congrArg Value.bool (by decide)) (s_M 1 rfl rfl (s_do rfl rfl rfl (d_indexA (l := 2) rfl (z := 1) (j := 1) (r := 1) (by kernel_rfl) rfl rfl rfl (by omega) (by omega)) (s_put rfl rfl (n_store 3 H rfl rfl rfl rfl (vs := [.slice (some ⟨g1, 0, none⟩) 256 cap1]) rfl (by simp [u8, u32, Value.oneCell']) (by kernel_rfl) (by simp) (out := [.slice (some ⟨g0, 0, none⟩) 256 cap0, .slice (some ⟨g1, 0, none⟩) 256 cap1]) rfl) ?_))))))); rintro w H'; have H := H'.l6; clear H'; refine s_M 1 rfl rfl (s_end (s_region (s_do rfl rfl rfl (d_add64 rfl rfl rfl (r := 2) (by omega) (by omega)) (s_M 1 rfl rfl (s_end (k_round (k_seq (s_region (s_M 1 rfl rfl (k_updA 29 (u := .bool (decide ((2 : Int) < 2))) (v := .bool false) rfl (congrArg Value.bool (by decide)) (s_end (k_seq (k_false rfl ?_))))))))))))); refine k_exit (k_here (k_seq (k_seq (s_region (s_M 1 rfl rfl (s_end (k_false rfl (k_skip (k_seq (s_region (s_do rfl rfl rfl (d_build rfl rfl (out := [.int .i64 (-1), .int .i64 0, .int .i64 0, .int .i64 0, .int .i64 0, .int .i64 0, .int .i64 0]) (by kernel_rfl)) (s_go rfl rfl rfl (n_alloc (P := Tryz.prog) H rfl (zs := [.int .i64 0, .int .i64 0, .int .i64 0, .int .i64 0, .int .i64 0, .int .i64 0, .int .i64 0]) (by kernel_rfl)) ?_)))))))))))); rintro _ w ⟨b3, rfl, H'⟩; have H := H'.l7; clear H'; refine s_put rfl rfl (n_store 0 H rfl rfl rfl rfl (vs := [.int .i64 (-1), .int .i64 0, .int .i64 0, .int .i64 0, .int .i64 0, .int .i64 0, .int .i64 0]) rfl (by simp [u8, u32, Value.oneCell']) (by kernel_rfl) (by simp) (out := [.int .i64 (-1), .int .i64 0, .int .i64 0, .int .i64 0, .int .i64 0, .int .i64 0, .int .i64 0]) rfl) ?_
    rintro w H'; have H := H'.l7; clear H'; refine s_end (k_seq (k_seq (s_region (s_do rfl rfl rfl (d_loadAgg rfl rfl (vs := [.slice (some ⟨g0, 0, none⟩) 256 cap0, .slice (some ⟨g1, 0, none⟩) 256 cap1]) (by kernel_rfl) (here ((H.blk 4 rfl).part 0 2 _ rfl))) (s_M 1 rfl rfl (s_end (k_block (k_rounds 3 (k_round (k_seq (s_region (s_M 1 rfl rfl (k_updA 51 (u := .bool (decide ((0 : Int) < 2))) (v := .bool true) rfl (congrArg Value.bool (by decide)) ?_))))))))))))); refine s_end (k_seq (k_true rfl (k_skip (k_seq (k_block (k_seq (s_region (s_M 1 rfl rfl (s_do rfl rfl rfl (d_indexW (m := 2) rfl (by kernel_rfl) rfl rfl rfl (j := 0) rfl (u := .slice (some ⟨g0, 0, none⟩) 256 cap0) rfl) (s_M 2 rfl rfl (s_end (k_seq (s_region ?_))))))))))))); refine s_M 2 rfl rfl (s_C rfl rfl rfl rfl rfl (fun w => Tryz.call104 _ w) (getSuper_c _ _ _ _ (D.cont (0 : Int).toNat) _ (fun h q => blk_sec q (by rw [show D.cont (0 : Int).toNat = supS y0 from c0]; exact supS_len _) ⟨cg0, cc0, cl0⟩) y0 ho0.1 c0) H.f3.f6 rfl ?_); rintro _ w _ ⟨rfl, rfl⟩ H'; have H := H'.l7; clear H'; refine s_M 3 rfl rfl (s_go rfl rfl rfl (n_alloc (P := Tryz.prog) H rfl (zs := [.int .i64 0, .int .i64 0, .int .i64 0, .int .i64 0, .int .i64 0, .int .i64 0, .int .i64 0]) (by kernel_rfl)) ?_); rintro _ w ⟨b4, rfl, H'⟩; have H := H'.l8; clear H'; refine s_put rfl rfl (n_store 0 H rfl rfl rfl rfl (vs := [.int .i64 y0.gen, .int .i64 y0.epoch, .int .i64 y0.pages, .int .i64 y0.start, .int .i64 y0.len, .int .i64 y0.head, .int .i64 y0.seq]) rfl (by simp [u8, u32, Value.oneCell']) (by kernel_rfl) (by simp) (out := [.int .i64 y0.gen, .int .i64 y0.epoch, .int .i64 y0.pages, .int .i64 y0.start, .int .i64 y0.len, .int .i64 y0.head, .int .i64 y0.seq]) rfl) ?_
    rintro w H'; have H := H'.l8; clear H'; refine s_M 1 rfl rfl (s_end (k_seq (q_region (Sep z _) (by kernel_rfl) (by kernel_rfl) H.drew (q_M 2 [] rfl (by kernel_rfl) (q_do rfl rfl rfl (d_loadAgg rfl rfl (vs := [.int .i64 y0.gen, .int .i64 y0.epoch, .int .i64 y0.pages, .int .i64 y0.start, .int .i64 y0.len, .int .i64 y0.head, .int .i64 y0.seq]) (by kernel_rfl) (fun _ hx => (hx.blk 0 rfl).part 0 7 _ rfl)) (q_M 1 [] rfl (by kernel_rfl) (q_call rfl rfl rfl rfl rfl (fun w => Tryz.call68 _ w) (v := .int .i64 (D.n : Int)) (cq (sizeD_c _ _) (by rintro _ _ ⟨rfl, rfl⟩; exact ⟨rfl, rfl⟩) 6 [5, 0, 1, 2, 3, 4] [1, 2, 3, 4, 5, 0] rfl rfl rfl rfl) (q_call rfl rfl rfl rfl rfl (fun w => Tryz.call50 _ w) (v := .int .i64 (if y0.Ok (D.n : Int) then 0 else 1)) (cq (check_c _ _ (by omega)) (by rintro _ _ ⟨rfl, rfl⟩; exact ⟨rfl, rfl⟩) 0 [] [] rfl rfl rfl rfl) (q_M 3 [] rfl (by kernel_rfl) (q_part 68 rfl (fun h2 => ?_) (fun h2 => ?_)))))))))))
    ·refine q_L 2 [0, 0] (fun _ hx => (mm1 (hx.blk 0 rfl) mm0)) rfl (by kernel_rfl) rfl (q_do rfl rfl rfl (d_rem64 rfl rfl rfl (r := y0.gen % 2) (by omega) (by omega) (by omega)) (q_M 4 [] rfl (by kernel_rfl) (q_part 75 rfl (fun h3 => ?_) (fun h3 => ?_))))
     ·refine q_L 6 [0, 0, 0, 1] (fun _ hx => (mm1 (hx.blk 0 rfl) (mm1 (hx.blk 3 rfl) mm0))) rfl (by kernel_rfl) rfl (q_end (fun w H' => ?_)); have H := H'.l8; clear H'; refine k_dec rfl (fun h4 => ?_) (fun h4 => ?_)
      ·refine s_region (s_do rfl rfl rfl (d_loadAgg rfl rfl (vs := [.int .i64 y0.gen, .int .i64 y0.epoch, .int .i64 y0.pages, .int .i64 y0.start, .int .i64 y0.len, .int .i64 y0.head, .int .i64 y0.seq]) (by kernel_rfl) (here ((H.blk 0 rfl).part 0 7 _ rfl))) (s_put rfl rfl (n_store 3 H rfl rfl rfl rfl (vs := [.int .i64 y0.gen, .int .i64 y0.epoch, .int .i64 y0.pages, .int .i64 y0.start, .int .i64 y0.len, .int .i64 y0.head, .int .i64 y0.seq]) rfl (by simp [u8, u32, Value.oneCell']) (by kernel_rfl) (by simp) (out := [.int .i64 y0.gen, .int .i64 y0.epoch, .int .i64 y0.pages, .int .i64 y0.start, .int .i64 y0.len, .int .i64 y0.head, .int .i64 y0.seq]) rfl) ?_)); rintro w H'; have H := H'.l8; clear H'; refine s_end (s_region (s_do rfl rfl rfl (d_add64 rfl rfl rfl (r := 1) (by omega) (by omega)) (s_M 1 rfl rfl (s_end (k_round (k_seq (s_region (s_M 1 rfl rfl (k_updA 51 (u := .bool (decide ((1 : Int) < 2))) (v := .bool true) rfl (congrArg Value.bool (by decide)) (s_end (k_seq (k_true rfl (k_skip ?_))))))))))))); refine k_seq (k_block (k_seq (s_region (s_M 1 rfl rfl (s_do rfl rfl rfl (d_indexW (m := 2) rfl (by kernel_rfl) rfl rfl rfl (j := 1) rfl (u := .slice (some ⟨g1, 0, none⟩) 256 cap1) rfl) (s_M 2 rfl rfl (s_end (k_seq (s_region (s_M 2 rfl rfl (s_C rfl rfl rfl rfl rfl (fun w => Tryz.call104 _ w) (getSuper_c _ _ _ _ (D.cont (1 : Int).toNat) _ (fun h q => blk_sec q (by rw [show D.cont (1 : Int).toNat = supS y1 from c1]; exact supS_len _) ⟨cg1, cc1, cl1⟩) y1 ho1.1 c1) H.f4.f2 rfl ?_))))))))))); rintro _ w _ ⟨rfl, rfl⟩ H'; have H := H'.l8; clear H'; refine s_M 3 rfl rfl (s_go rfl rfl rfl (n_alloc (P := Tryz.prog) H rfl (zs := [.int .i64 0, .int .i64 0, .int .i64 0, .int .i64 0, .int .i64 0, .int .i64 0, .int .i64 0]) (by kernel_rfl)) ?_)
       rintro _ w ⟨b5, rfl, H'⟩; have H := H'.l9; clear H'; refine s_put rfl rfl (n_store 0 H rfl rfl rfl rfl (vs := [.int .i64 y1.gen, .int .i64 y1.epoch, .int .i64 y1.pages, .int .i64 y1.start, .int .i64 y1.len, .int .i64 y1.head, .int .i64 y1.seq]) rfl (by simp [u8, u32, Value.oneCell']) (by kernel_rfl) (by simp) (out := [.int .i64 y1.gen, .int .i64 y1.epoch, .int .i64 y1.pages, .int .i64 y1.start, .int .i64 y1.len, .int .i64 y1.head, .int .i64 y1.seq]) rfl) ?_; rintro w H'; have H := H'.l9; clear H'; refine s_M 1 rfl rfl (s_end (k_seq (q_region (Sep z _) (by kernel_rfl) (by kernel_rfl) H.drew (q_M 2 [] rfl (by kernel_rfl) (q_do rfl rfl rfl (d_loadAgg rfl rfl (vs := [.int .i64 y1.gen, .int .i64 y1.epoch, .int .i64 y1.pages, .int .i64 y1.start, .int .i64 y1.len, .int .i64 y1.head, .int .i64 y1.seq]) (by kernel_rfl) (fun _ hx => (hx.blk 0 rfl).part 0 7 _ rfl)) (q_M 1 [] rfl (by kernel_rfl) (q_call rfl rfl rfl rfl rfl (fun w => Tryz.call68 _ w) (v := .int .i64 (D.n : Int)) (cq (sizeD_c _ _) (by rintro _ _ ⟨rfl, rfl⟩; exact ⟨rfl, rfl⟩) 7 [6, 0, 1, 2, 3, 4, 5] [1, 2, 3, 4, 5, 6, 0] rfl rfl rfl rfl) (q_call rfl rfl rfl rfl rfl (fun w => Tryz.call50 _ w) (v := .int .i64 (if y1.Ok (D.n : Int) then 0 else 1)) (cq (check_c _ _ (by omega)) (by rintro _ _ ⟨rfl, rfl⟩; exact ⟨rfl, rfl⟩) 0 [] [] rfl rfl rfl rfl) (q_M 3 [] rfl (by kernel_rfl) (q_part 68 rfl (fun h5 => ?_) (fun h5 => ?_)))))))))))
       ·refine q_L 2 [0, 0] (fun _ hx => (mm1 (hx.blk 0 rfl) mm0)) rfl (by kernel_rfl) rfl (q_do rfl rfl rfl (d_rem64 rfl rfl rfl (r := y1.gen % 2) (by omega) (by omega) (by omega)) (q_M 4 [] rfl (by kernel_rfl) (q_part 75 rfl (fun h6 => ?_) (fun h6 => ?_))))
        ·refine q_L 6 [0, 0, 0, 1] (fun _ hx => (mm1 (hx.blk 0 rfl) (mm1 (hx.blk 5 rfl) mm0))) rfl (by kernel_rfl) rfl (q_end (fun w H' => ?_)); have H := H'.l9; clear H'; refine k_dec rfl (fun h7 => ?_) (fun h7 => ?_)
         ·refine s_region (s_do rfl rfl rfl (d_loadAgg rfl rfl (vs := [.int .i64 y1.gen, .int .i64 y1.epoch, .int .i64 y1.pages, .int .i64 y1.start, .int .i64 y1.len, .int .i64 y1.head, .int .i64 y1.seq]) (by kernel_rfl) (here ((H.blk 0 rfl).part 0 7 _ rfl))) (s_put rfl rfl (n_store 5 H rfl rfl rfl rfl (vs := [.int .i64 y1.gen, .int .i64 y1.epoch, .int .i64 y1.pages, .int .i64 y1.start, .int .i64 y1.len, .int .i64 y1.head, .int .i64 y1.seq]) rfl (by simp [u8, u32, Value.oneCell']) (by kernel_rfl) (by simp) (out := [.int .i64 y1.gen, .int .i64 y1.epoch, .int .i64 y1.pages, .int .i64 y1.start, .int .i64 y1.len, .int .i64 y1.head, .int .i64 y1.seq]) rfl) ?_)); rintro w H'; have H := H'.l9; clear H'; refine s_end (s_region (s_do rfl rfl rfl (d_add64 rfl rfl rfl (r := 2) (by omega) (by omega)) (s_M 1 rfl rfl (s_end (k_round (k_seq (s_region (s_M 1 rfl rfl (k_updA 51 (u := .bool (decide ((2 : Int) < 2))) (v := .bool false) rfl (congrArg Value.bool (by decide)) (s_end (k_seq (k_false rfl (k_exit ?_))))))))))))); refine k_here (k_seq (k_seq (s_region (s_L 3 [0, 0] (mm1 (H.blk 5 rfl) mm0) rfl (by kernel_rfl) rfl (s_end (k_dec rfl (fun h8 => ?_) (fun h8 => ?_)))))))
          ·(exfalso; omega)
          ·refine k_skip (k_seq (s_region (s_do rfl rfl rfl (d_loadAgg rfl rfl (vs := [.int .i64 y1.gen, .int .i64 y1.epoch, .int .i64 y1.pages, .int .i64 y1.start, .int .i64 y1.len, .int .i64 y1.head, .int .i64 y1.seq]) (by kernel_rfl) (here ((H.blk 5 rfl).part 0 7 _ rfl))) (s_put rfl rfl (n_store 8 H rfl rfl rfl rfl (vs := [.int .i64 y1.gen, .int .i64 y1.epoch, .int .i64 y1.pages, .int .i64 y1.start, .int .i64 y1.len, .int .i64 y1.head, .int .i64 y1.seq]) rfl (by simp [u8, u32, Value.oneCell']) (by kernel_rfl) (by simp) (out := [.int .i64 y1.gen, .int .i64 y1.epoch, .int .i64 y1.pages, .int .i64 y1.start, .int .i64 y1.len, .int .i64 y1.head, .int .i64 y1.seq]) rfl) ?_)))); rintro w H'; have H := H'.l9; clear H'; refine s_M 1 rfl rfl (s_end (k_ret (doneL rfl [.agg #[.int .i64 y1.gen, .int .i64 y1.epoch, .int .i64 y1.pages, .int .i64 y1.start, .int .i64 y1.len, .int .i64 y1.head, .int .i64 y1.seq], .int .i64 0] ⟨⟨_, _, rfl, run_loadBlk (by kernel_rfl) (H.blk 8 rfl) (vs := [.int .i64 y1.gen, .int .i64 y1.epoch, .int .i64 y1.pages, .int .i64 y1.start, .int .i64 y1.len, .int .i64 y1.head, .int .i64 y1.seq]) rfl⟩, ⟨rfl, trivial⟩⟩ (v := .tuple #[.agg #[.int .i64 y1.gen, .int .i64 y1.epoch, .int .i64 y1.pages, .int .i64 y1.start, .int .i64 y1.len, .int .i64 y1.head, .int .i64 y1.seq], .int .i64 0]) rfl ?_))); obtain rfl : x = y1 := by rw [hx]; first | exact if_pos (by omega) | exact if_neg (by omega)
           exact ⟨[diskA pd D, tblA pt], ⟨rfl, rfl⟩, H.perm 9 [6, 1] rfl rfl⟩
         ·refine k_skip (s_region (s_do rfl rfl rfl (d_add64 rfl rfl rfl (r := 2) (by omega) (by omega)) (s_M 1 rfl rfl (s_end (k_round (k_seq (s_region (s_M 1 rfl rfl (k_updA 51 (u := .bool (decide ((2 : Int) < 2))) (v := .bool false) rfl (congrArg Value.bool (by decide)) (s_end (k_seq (k_false rfl (k_exit ?_))))))))))))); refine k_here (k_seq (k_seq (s_region (s_L 3 [0, 0] (mm1 (H.blk 5 rfl) mm0) rfl (by kernel_rfl) rfl (s_end (k_dec rfl (fun h9 => ?_) (fun h9 => ?_)))))))
          ·(exfalso; omega)
          ·refine k_skip (k_seq (s_region (s_do rfl rfl rfl (d_loadAgg rfl rfl (vs := [.int .i64 y0.gen, .int .i64 y0.epoch, .int .i64 y0.pages, .int .i64 y0.start, .int .i64 y0.len, .int .i64 y0.head, .int .i64 y0.seq]) (by kernel_rfl) (here ((H.blk 5 rfl).part 0 7 _ rfl))) (s_put rfl rfl (n_store 8 H rfl rfl rfl rfl (vs := [.int .i64 y0.gen, .int .i64 y0.epoch, .int .i64 y0.pages, .int .i64 y0.start, .int .i64 y0.len, .int .i64 y0.head, .int .i64 y0.seq]) rfl (by simp [u8, u32, Value.oneCell']) (by kernel_rfl) (by simp) (out := [.int .i64 y0.gen, .int .i64 y0.epoch, .int .i64 y0.pages, .int .i64 y0.start, .int .i64 y0.len, .int .i64 y0.head, .int .i64 y0.seq]) rfl) ?_)))); rintro w H'; have H := H'.l9; clear H'; refine s_M 1 rfl rfl (s_end (k_ret (doneL rfl [.agg #[.int .i64 y0.gen, .int .i64 y0.epoch, .int .i64 y0.pages, .int .i64 y0.start, .int .i64 y0.len, .int .i64 y0.head, .int .i64 y0.seq], .int .i64 0] ⟨⟨_, _, rfl, run_loadBlk (by kernel_rfl) (H.blk 8 rfl) (vs := [.int .i64 y0.gen, .int .i64 y0.epoch, .int .i64 y0.pages, .int .i64 y0.start, .int .i64 y0.len, .int .i64 y0.head, .int .i64 y0.seq]) rfl⟩, ⟨rfl, trivial⟩⟩ (v := .tuple #[.agg #[.int .i64 y0.gen, .int .i64 y0.epoch, .int .i64 y0.pages, .int .i64 y0.start, .int .i64 y0.len, .int .i64 y0.head, .int .i64 y0.seq], .int .i64 0]) rfl ?_))); obtain rfl : x = y0 := by rw [hx]; first | exact if_pos (by omega) | exact if_neg (by omega)
           exact ⟨[diskA pd D, tblA pt], ⟨rfl, rfl⟩, H.perm 9 [6, 1] rfl rfl⟩
        ·(exfalso; omega)
       ·exact absurd (if_pos ho1) h5
      ·(exfalso; omega)
     ·(exfalso; omega)
    ·exact absurd (if_pos ho0) h2
end Go.Proofs.YtbegkbjigbkljaaGreatDoor
