/-
  The law RelogKeeps holds: whatever moves are asked, stepped and given up, pages read as committed last, and the log is where the last move led. No condition.
-/
import Derived.Test.YtbegkbjigbkljaaGreatDoorPart4
import Derived.Test.YtbegkbjigbkljaaGreatDoorCards
import Derived.Test.YtbegkbjigbkljaaGreatDoorTie
import Derived.WalkKit
import Derived.WalkSpells
import Derived.Deep.Quiet
import Derived.KernelRfl
import Derived.IntWalk
import Derived.Maps.AppendAt
import Derived.Laws.AppendOwnNone
import Derived.Laws.CopyRow
import Derived.StillTail
import Derived.Deep.RegionHeld
import Derived.Laws.IdiomStrings
import Derived.Laws.BytesArg
import Derived.Laws.OwnMore
import Derived.Lib.Strings
import Derived.ArgAppend
import Derived.RangeFuncLeaves
import Derived.RangeFuncRecord
import Derived.RangeFuncCalls
import Derived.RangeFuncSeq
import Derived.OrdersIn
import Derived.TacticsIn
import Derived.Laws.IdiomRangeMap
import Derived.Defers
import Derived.Laws.LoneSync
import Derived.LoopN
import Derived.Test.YtbegkbjigbkljaaGreatDoorRows
import Derived.Test.YtbegkbjigbkljaaGreatDoorProg
import Derived.Shelf.Sort.Plain
import Derived.Shelf.Slices.In.SortNone
import Derived.DataReads
import Derived.ProofKit
import Derived.OpenShut
import Derived.Lib.SmallJoins
import Derived.Deep.DeepHandedRow
import Derived.Lib.LaidTab
set_option maxRecDepth 100000
set_option linter.unusedSimpArgs false
set_option linter.unusedVariables false
namespace Go.Proofs.YtbegkbjigbkljaaGreatDoor
open Go.RowKit
theorem zh_step (n k : Nat) : wr1 (zhD (newD n) k) false ((2 : Int) + (k : Int)).toNat (List.replicate 256 0) = zhD (newD n) (k + 1) := by
  rw [show ((2 : Int) + (k : Int)).toNat = 2 + k from by omega]; rfl
theorem fm_ok1 {n : Nat} {p s l : Int} (h : (fmS p s l 2).Ok (n : Int)) : (fmS p s l 1).Ok (n : Int) := by
  have hk := h.2
  have hs := Sup.get h
  have h2 : (fmS p s l 2).pages = p ∧ (fmS p s l 2).start = s ∧ (fmS p s l 2).len = l ∧ (fmS p s l 2).head = 0 := ⟨rfl, rfl, rfl, rfl⟩
  exact Sup.ok_mk (by show 0 ≤ (1 : Int) ∧ (1 : Int) ≤ 1099511627776; omega) (by show 0 ≤ (1 : Int) ∧ (1 : Int) ≤ 1099511627776; omega) (by show 16 ≤ p ∧ p ≤ 1024; omega) (by show 2 + p ≤ s ∧ s ≤ 1099511627776; omega) (by show 64 ≤ l ∧ l ≤ 1099511627776; omega) (by show 0 ≤ (0 : Int) ∧ (0 : Int) < l; omega) (by show 0 ≤ (1 : Int) ∧ (1 : Int) ≤ 1099511627776; omega) (by show s ≤ n - l ∧ l ≤ n; omega)
theorem fm_f {n : Nat} {p s l : Int} (h : (fmS p s l 2).Ok (n : Int)) : (16 ≤ p ∧ p ≤ 1024) ∧ 2 + p ≤ s ∧ s + l ≤ n ∧ 0 ≤ l := by
  have hk := h.2
  have h2 : (fmS p s l 2).pages = p ∧ (fmS p s l 2).start = s ∧ (fmS p s l 2).len = l ∧ (fmS p s l 2).head = 0 := ⟨rfl, rfl, rfl, rfl⟩
  omega
set_option maxHeartbeats 2000000 in
theorem format_c (pd n : Nat) (p s l : Int) (hok : (fmS p s l 2).Ok (n : Int)) : Cn Tryz.prog 28 [.pointer (some ⟨pd, 0, none⟩), .int .i64 p, .int .i64 s, .int .i64 l] [diskA pd (newD n)] (fun v Γ => v = .int .i64 0 ∧ Γ = [diskA pd (fmD n p s l)]) := by
 intro z R w H'; have H : Sep z (diskA pd (newD n) :: R) w := H'
 clear H'; have hok1 : (fmS p s l 1).Ok (n : Int) := fm_ok1 hok
 have hk2 : (16 ≤ p ∧ p ≤ 1024) ∧ 2 + p ≤ s ∧ s + l ≤ n ∧ 0 ≤ l := fm_f hok
 have hn2d := H.says 0 rfl (fun h q => (diskA.ok q).n2)
 have hn3 : n ≤ 4096 := hn2d
 refine enter Tryz.func28 rfl 57 Tryz.ntmps28 rfl (k_seq (s_region (s_M 1 rfl rfl (s_end (k_seq (k_seq (s_region (s_M 1 rfl rfl (s_do rfl rfl rfl (d_eql_pn rfl (by kernel_rfl) rfl rfl) (s_end (k_false rfl (k_skip (k_seq ?_))))))))))))); refine s_region (s_M 3 rfl rfl (s_do rfl rfl rfl (d_build rfl rfl (out := [.int .i64 1, .int .i64 1, .int .i64 p, .int .i64 s, .int .i64 l, .int .i64 0, .int .i64 1]) (by kernel_rfl)) (s_go rfl rfl rfl (n_alloc (P := Tryz.prog) H rfl (zs := [.int .i64 0, .int .i64 0, .int .i64 0, .int .i64 0, .int .i64 0, .int .i64 0, .int .i64 0]) (by kernel_rfl)) ?_))); rintro _ w ⟨b1, rfl, H'⟩; have H := H'.l2; clear H'; refine s_put rfl rfl (n_store 0 H rfl rfl rfl rfl (vs := [.int .i64 1, .int .i64 1, .int .i64 p, .int .i64 s, .int .i64 l, .int .i64 0, .int .i64 1]) rfl (by simp [u8, u32, Value.oneCell']) (by kernel_rfl) (by simp) (out := [.int .i64 1, .int .i64 1, .int .i64 p, .int .i64 s, .int .i64 l, .int .i64 0, .int .i64 1]) rfl) ?_; rintro w H'; have H := H'.l2; clear H'; refine s_end (k_seq (k_seq (q_region (Sep z _) (by kernel_rfl) (by kernel_rfl) H.drew (q_do rfl rfl rfl (d_loadAgg rfl rfl (vs := [.int .i64 1, .int .i64 1, .int .i64 p, .int .i64 s, .int .i64 l, .int .i64 0, .int .i64 1]) (by kernel_rfl) (fun _ hx => (hx.blk 0 rfl).part 0 7 _ rfl)) (q_do rfl rfl rfl (d_move rfl rfl) (q_call rfl rfl rfl rfl rfl (fun w => Tryz.call68 _ w) (v := .int .i64 ((newD n).n : Int)) (cq (sizeD_c _ _) (by rintro _ _ ⟨rfl, rfl⟩; exact ⟨rfl, rfl⟩) 2 [1, 0] [1, 0] rfl rfl rfl rfl) (q_call rfl rfl rfl rfl rfl (fun w => Tryz.call50 _ w) (v := .int .i64 (if (Sup.mk 1 1 p s l 0 1).Ok ((newD n).n : Int) then 0 else 1)) (cq (check_c (Sup.mk 1 1 p s l 0 1) _ (by omega)) (by rintro _ _ ⟨rfl, rfl⟩; exact ⟨rfl, rfl⟩) 0 [] [] rfl rfl rfl rfl) (q_do rfl rfl rfl (d_neq rfl rfl rfl) (q_end (fun w H' => ?_))))))))))
 have H := H'.l2; clear H'; refine k_dec rfl (fun h1 => ?_) (fun h1 => ?_)
 ·exact (h1 (if_pos hok1)).elim
 ·refine k_skip (k_seq (k_seq (s_region (s_M 2 rfl rfl (s_end (k_block ?_)))))); refine c_loop (σ := Nat) (fun k => [(27, .int .i64 (k : Int)), (0, .pointer (some ⟨pd, 0, none⟩)), (9, .pointer (some ⟨b1, 0, none⟩)), (26, .int .i64 p)])
    (fun k w => Sep z (blk b1 [.int .i64 1, .int .i64 1, .int .i64 p, .int .i64 s, .int .i64 l, .int .i64 0, .int .i64 1] 49 :: diskA pd (zhD (newD n) k) :: R) w ∧ (k ≤ p.toNat)) (fun k => p.toNat - k) 0
    (fun _ hF => (hF.cons (hF.cons (hF.cons (hF.cons hF.nil 26 _ _ rfl rfl) 9 _ _ rfl rfl) 0 _ _ rfl rfl) 27 _ _ rfl (by go_num))) ⟨H, by omega⟩ ?_
  clear H; rintro k w ⟨H', hI⟩; have H := H'.l2; clear H'; have hkp := hI; clear hI
  refine k_seq (s_region (s_M 1 rfl rfl (s_end (k_seq (k_dec rfl (fun h2 => ?_) (fun h2 => ?_))))))
  ·refine k_skip (k_seq (k_block (k_seq (s_region (s_M 2 rfl rfl (s_end (k_seq (s_region (s_M 2 rfl rfl (s_do rfl rfl rfl (d_add64 rfl rfl rfl (r := (2 : Int) + (k : Int)) (by omega) (by omega)) (s_go rfl rfl rfl (n_make (k := 256) H rfl (by kernel_rfl) (Elt.mk (P := Tryz.prog) (e := 5) (z := u8 0) (sz := 1) (by_ := 1) (by kernel_rfl) rfl (by omega) (by omega)) rfl rfl rfl (by omega)) ?_))))))))))); rintro _ w ⟨b2, rfl, H'⟩; have H := H'.l3; clear H'; refine s_C rfl rfl rfl rfl rfl (fun w => Tryz.call69 _ w) (write1_c _ _ _ _ _ _ _ (List.replicate 256 0) _ (by simp) (fun h q => by rw [List.map_replicate]; exact q.rd (by omega) (by omega) (by simp) rfl) (fun i => by have := zh_len n i k; omega) (by rw [zh_n]; show 0 ≤ (2 : Int) + (k : Int) ∧ (2 : Int) + (k : Int) + 1 ≤ (n : Int); omega)) H.f2 rfl ?_; rintro _ w _ (⟨hbad, rfl, rfl⟩ | ⟨_, rfl, rfl⟩) H'
   ·exact absurd hbad (zh_clean (newD_clean n) k).bad
   ·have H := H'.l3; clear H'; refine s_M 1 rfl rfl (s_end (k_seq (s_region (s_M 2 rfl rfl (k_updA 36 (u := .bool (decide ((0 : Int) ≠ 0))) (v := .bool false) rfl (congrArg Value.bool (by decide)) (s_end (k_false rfl (k_skip (s_region (s_do rfl rfl rfl (d_add64 rfl rfl rfl (r := (k : Int) + 1) (by omega) (by omega)) (s_M 1 rfl rfl (s_end ?_)))))))))))); replace H := H.f1.d.f1; intro _ hF; refine ⟨(k + 1), (hF.cons (hF.cons (hF.cons (hF.cons hF.nil 26 _ _ rfl rfl) 9 _ _ rfl rfl) 0 _ _ rfl rfl) 27 _ _ rfl (by go_num)), ⟨(by rw [← zh_step]; exact H), ?_⟩, ?_⟩
    ·omega
    ·omega
  ·obtain rfl : k = p.toNat := by omega
   refine k_exit (k_here (k_seq (k_seq (s_region (s_M 1 rfl rfl (s_C rfl rfl rfl rfl rfl (fun w => Tryz.call60 _ w) (flush_c _ _) H.f1 rfl ?_)))))); rintro _ w _ (⟨hfb_, rfl, rfl⟩ | ⟨_, rfl, rfl⟩) H'
   ·exact absurd hfb_ (zh_clean (newD_clean n) p.toNat).flb
   ·have H := H'.l2; clear H'; refine s_M 1 rfl rfl (s_end (k_seq (s_region (s_M 2 rfl rfl (k_updA 42 (u := .bool (decide ((0 : Int) ≠ 0))) (v := .bool false) rfl (congrArg Value.bool (by decide)) (s_end (k_false rfl (k_skip (k_seq (s_region (s_C rfl rfl rfl rfl rfl (fun w => Tryz.call63 _ w) (crcnew_c ) H rfl ?_))))))))))); rintro _ w _ ⟨pt, rfl, rfl⟩ H'; have H := H'.l3; clear H'; refine s_M 1 rfl rfl (s_end (k_seq (k_seq (s_region (s_M 2 rfl rfl (s_do rfl rfl rfl (d_loadAgg rfl rfl (vs := [.int .i64 1, .int .i64 1, .int .i64 p, .int .i64 s, .int .i64 l, .int .i64 0, .int .i64 1]) (by kernel_rfl) (here ((H.blk 2 rfl).part 0 7 _ rfl))) (s_C rfl rfl rfl rfl rfl (fun w => Tryz.call70 _ w) (save_c _ _ _ (fmS p s l 1) (by show (fmS p s l 1).Ok ((zhD (newD n) p.toNat).n : Int); rw [zh_n]; exact hok1) (fun i => by show ([] : List (List UInt8)).length ≤ _; simp)) H.f1 rfl ?_))))))); rintro _ w _ (⟨hsb, rfl, rfl⟩ | ⟨_, rfl, rfl⟩) H'
    ·exact absurd hsb ((zh_clean (newD_clean n) p.toNat).fl).bad
    ·have H := H'.l3; clear H'; refine s_M 1 rfl rfl (s_end (k_seq (s_region (s_M 2 rfl rfl (k_updA 50 (u := .bool (decide ((0 : Int) ≠ 0))) (v := .bool false) rfl (congrArg Value.bool (by decide)) (s_end (k_false rfl (k_skip (k_seq (s_region (s_Q 1 [0] rfl (by kernel_rfl) (s_put rfl rfl (n_store 2 H rfl rfl rfl rfl (vs := [.int .i64 2]) rfl (by simp [u8, u32, Value.oneCell']) (by kernel_rfl) (by simp) (out := [.int .i64 2, .int .i64 1, .int .i64 p, .int .i64 s, .int .i64 l, .int .i64 0, .int .i64 1]) rfl) ?_)))))))))))); rintro w H'; have H := H'.l3; clear H'; refine s_end (k_seq (s_region (s_M 2 rfl rfl (s_do rfl rfl rfl (d_loadAgg rfl rfl (vs := [.int .i64 2, .int .i64 1, .int .i64 p, .int .i64 s, .int .i64 l, .int .i64 0, .int .i64 1]) (by kernel_rfl) (here ((H.blk 2 rfl).part 0 7 _ rfl))) (s_C rfl rfl rfl rfl rfl (fun w => Tryz.call70 _ w) (save_c _ _ _ (fmS p s l 2) (by show (fmS p s l 2).Ok ((zhD (newD n) p.toNat).n : Int); rw [zh_n]; exact hok) (fun i => by rw [sv_ver (fun _ => rfl)]; simp)) H rfl ?_))))); rintro _ w _ (⟨hsb, rfl, rfl⟩ | ⟨_, rfl, rfl⟩) H'
     ·exact absurd hsb (((zh_clean (newD_clean n) p.toNat).fl.sv _)).bad
     ·have H := H'.l3; clear H'; refine s_M 1 rfl rfl (s_end (k_ret (doneL rfl [.int .i64 0] ⟨rfl, trivial⟩ (v := .int .i64 0) rfl ?_))); exact ⟨[diskA pd (svD (svD ((zhD (newD n) p.toNat).fl) (fmS p s l 1)) (fmS p s l 2))], ⟨rfl, rfl⟩, H.perm 3 [0] rfl rfl⟩
set_option maxHeartbeats 2000000 in
theorem check_pt_c (ps pd pt pl md : Nat) (x sL : Sup) (mo : Value) (nu : Bool) (hq : Hp) (D : Dsk) (B : Nat → Pg) (rs : List Rc) (ptl : List (List UInt8)) (a q u : Int) (b : Bool) (sure : Nat) (hS : SInv D x B rs ptl a q u b sure) (hL : sL.start = x.start ∧ sL.len = x.len ∧ sL.epoch = x.epoch) (hqb : q ≤ 1099511627776) (hver : ∀ i, (D.ver i).length ≤ 1000000000000) : Cn Tryz.prog 52 [.pointer (some ⟨ps, 0, none⟩)] [blk ps [.pointer (some ⟨pd, 0, none⟩), .pointer (some ⟨pt, 0, none⟩), .int .i64 x.gen, .int .i64 x.epoch, .int .i64 x.pages, .int .i64 x.start, .int .i64 x.len, .int .i64 x.head, .int .i64 x.seq, .pointer (some ⟨pl, 0, none⟩), .map (some md), .bool false, mo] 108, blk pl [.pointer (some ⟨pd, 0, none⟩), .pointer (some ⟨pt, 0, none⟩), .int .i64 sL.gen, .int .i64 sL.epoch, .int .i64 sL.pages, .int .i64 sL.start, .int .i64 sL.len, .int .i64 sL.head, .int .i64 sL.seq, .int .i64 a, .int .i64 q, .int .i64 u, .bool b, .bool nu] 176, tblA pt, diskA pd D, pgsA md (ov rs) hq, poolA hq] (fun v Γ => ((∀ n, ov rs n = none) ∧ b = false ∧ u < x.len ∧ v = .int .i64 0 ∧ Γ = [blk ps [.pointer (some ⟨pd, 0, none⟩), .pointer (some ⟨pt, 0, none⟩), .int .i64 x.gen, .int .i64 x.epoch, .int .i64 x.pages, .int .i64 x.start, .int .i64 x.len, .int .i64 x.head, .int .i64 x.seq, .pointer (some ⟨pl, 0, none⟩), .map (some md), .bool false, mo] 108, blk pl [.pointer (some ⟨pd, 0, none⟩), .pointer (some ⟨pt, 0, none⟩), .int .i64 sL.gen, .int .i64 sL.epoch, .int .i64 sL.pages, .int .i64 sL.start, .int .i64 sL.len, .int .i64 sL.head, .int .i64 sL.seq, .int .i64 a, .int .i64 q, .int .i64 u, .bool b, .bool nu] 176, tblA pt, diskA pd D, pgsA md (ov rs) hq, poolA hq]) ∨ (∃ D2 : Dsk, ¬ ((∀ n, ov rs n = none) ∧ b = false ∧ u < x.len) ∧ SInv D2 (ckS x a q) (pgMap (ov rs) B) [] [] a q 0 false 0 ∧ (Clean D → Clean D2) ∧ D2.n = D.n ∧ (∀ i, D2.ver i = []) ∧ v = .int .i64 0 ∧ Γ = [blk ps [.pointer (some ⟨pd, 0, none⟩), .pointer (some ⟨pt, 0, none⟩), .int .i64 ((ckS x a q).gen), .int .i64 ((ckS x a q).epoch), .int .i64 ((ckS x a q).pages), .int .i64 ((ckS x a q).start), .int .i64 ((ckS x a q).len), .int .i64 ((ckS x a q).head), .int .i64 ((ckS x a q).seq), .pointer (some ⟨pl, 0, none⟩), .map (some md), .bool false, mo] 108, blk pl [.pointer (some ⟨pd, 0, none⟩), .pointer (some ⟨pt, 0, none⟩), .int .i64 sL.gen, .int .i64 sL.epoch, .int .i64 sL.pages, .int .i64 sL.start, .int .i64 sL.len, .int .i64 sL.head, .int .i64 sL.seq, .int .i64 a, .int .i64 q, .int .i64 0, .bool false, .bool nu] 176, tblA pt, diskA pd D2, pgsA md noPgs hq, poolA hq]) ∨ (∃ (c : Int) (D2 : Dsk) (sure2 : Nat), c ≠ 0 ∧ (¬ Clean D ∨ 1099511627776 < x.gen + 1) ∧ (SInv D2 x B rs ptl a q u b sure2 ∧ sure ≤ sure2) ∧ D2.n = D.n ∧ (∀ i, (D2.ver i).length ≤ (D.ver i).length + 1) ∧ v = .int .i64 c ∧ Γ = [blk ps [.pointer (some ⟨pd, 0, none⟩), .pointer (some ⟨pt, 0, none⟩), .int .i64 x.gen, .int .i64 x.epoch, .int .i64 x.pages, .int .i64 x.start, .int .i64 x.len, .int .i64 x.head, .int .i64 x.seq, .pointer (some ⟨pl, 0, none⟩), .map (some md), .bool false, mo] 108, blk pl [.pointer (some ⟨pd, 0, none⟩), .pointer (some ⟨pt, 0, none⟩), .int .i64 sL.gen, .int .i64 sL.epoch, .int .i64 sL.pages, .int .i64 sL.start, .int .i64 sL.len, .int .i64 sL.head, .int .i64 sL.seq, .int .i64 a, .int .i64 q, .int .i64 u, .bool b, .bool nu] 176, tblA pt, diskA pd D2, pgsA md (ov rs) hq, poolA hq])) := by
 intro z R w H'; have H : Sep z (blk ps [.pointer (some ⟨pd, 0, none⟩), .pointer (some ⟨pt, 0, none⟩), .int .i64 x.gen, .int .i64 x.epoch, .int .i64 x.pages, .int .i64 x.start, .int .i64 x.len, .int .i64 x.head, .int .i64 x.seq, .pointer (some ⟨pl, 0, none⟩), .map (some md), .bool false, mo] 108 :: blk pl [.pointer (some ⟨pd, 0, none⟩), .pointer (some ⟨pt, 0, none⟩), .int .i64 sL.gen, .int .i64 sL.epoch, .int .i64 sL.pages, .int .i64 sL.start, .int .i64 sL.len, .int .i64 sL.head, .int .i64 sL.seq, .int .i64 a, .int .i64 q, .int .i64 u, .bool b, .bool nu] 176 :: tblA pt :: diskA pd D :: pgsA md (ov rs) hq :: poolA hq :: R) w := H'
 clear H'; refine enter Tryz.func52 rfl 9 Tryz.ntmps52 rfl (k_seq (s_region (s_M 1 rfl rfl (s_end (k_seq (k_seq (s_region (s_L 4 [11, 0] (mm1 (H.blk 0 rfl) mm0) rfl (by kernel_rfl) rfl (s_end (k_false rfl (k_skip (k_seq (s_region ?_))))))))))))); refine s_M 1 rfl rfl (s_C rfl rfl rfl rfl rfl (fun w => Tryz.call92 _ w) (checkpoint_c _ _ _ _ _ _ _ _ _ _ _ _ _ _ _ _ _ _ _ _ hS hL (by omega) hver) H rfl ?_); rintro _ w _ (⟨hn0, hbf, hu64, rfl, rfl⟩ | ⟨D2, hne2, hS2, hcl2, hDn2, hv2, rfl, rfl⟩ | ⟨c3_, D2, sure2, hcne, hwhy, ⟨hS2, hsu2⟩, hDn2, hvl2, rfl, rfl⟩) H'
 ·have H := H'.l6; clear H'; refine s_M 1 rfl rfl (s_end (k_ret (doneL rfl [.int .i64 0] ⟨rfl, trivial⟩ (v := .int .i64 0) rfl ?_))); exact ⟨[blk ps [.pointer (some ⟨pd, 0, none⟩), .pointer (some ⟨pt, 0, none⟩), .int .i64 x.gen, .int .i64 x.epoch, .int .i64 x.pages, .int .i64 x.start, .int .i64 x.len, .int .i64 x.head, .int .i64 x.seq, .pointer (some ⟨pl, 0, none⟩), .map (some md), .bool false, mo] 108, blk pl [.pointer (some ⟨pd, 0, none⟩), .pointer (some ⟨pt, 0, none⟩), .int .i64 sL.gen, .int .i64 sL.epoch, .int .i64 sL.pages, .int .i64 sL.start, .int .i64 sL.len, .int .i64 sL.head, .int .i64 sL.seq, .int .i64 a, .int .i64 q, .int .i64 u, .bool b, .bool nu] 176, tblA pt, diskA pd D, pgsA md (ov rs) hq, poolA hq], .inl ⟨hn0, hbf, hu64, rfl, rfl⟩, H⟩
 ·have H := H'.l6; clear H'; refine s_M 1 rfl rfl (s_end (k_ret (doneL rfl [.int .i64 0] ⟨rfl, trivial⟩ (v := .int .i64 0) rfl ?_))); exact ⟨[blk ps [.pointer (some ⟨pd, 0, none⟩), .pointer (some ⟨pt, 0, none⟩), .int .i64 ((ckS x a q).gen), .int .i64 ((ckS x a q).epoch), .int .i64 ((ckS x a q).pages), .int .i64 ((ckS x a q).start), .int .i64 ((ckS x a q).len), .int .i64 ((ckS x a q).head), .int .i64 ((ckS x a q).seq), .pointer (some ⟨pl, 0, none⟩), .map (some md), .bool false, mo] 108, blk pl [.pointer (some ⟨pd, 0, none⟩), .pointer (some ⟨pt, 0, none⟩), .int .i64 sL.gen, .int .i64 sL.epoch, .int .i64 sL.pages, .int .i64 sL.start, .int .i64 sL.len, .int .i64 sL.head, .int .i64 sL.seq, .int .i64 a, .int .i64 q, .int .i64 0, .bool false, .bool nu] 176, tblA pt, diskA pd D2, pgsA md noPgs hq, poolA hq], .inr (.inl ⟨D2, hne2, hS2, hcl2, hDn2, hv2, rfl, rfl⟩), H⟩
 ·have H := H'.l6; clear H'; refine s_M 1 rfl rfl (s_end (k_ret (doneL rfl [.int .i64 c3_] ⟨rfl, trivial⟩ (v := .int .i64 c3_) rfl ?_))); exact ⟨[blk ps [.pointer (some ⟨pd, 0, none⟩), .pointer (some ⟨pt, 0, none⟩), .int .i64 x.gen, .int .i64 x.epoch, .int .i64 x.pages, .int .i64 x.start, .int .i64 x.len, .int .i64 x.head, .int .i64 x.seq, .pointer (some ⟨pl, 0, none⟩), .map (some md), .bool false, mo] 108, blk pl [.pointer (some ⟨pd, 0, none⟩), .pointer (some ⟨pt, 0, none⟩), .int .i64 sL.gen, .int .i64 sL.epoch, .int .i64 sL.pages, .int .i64 sL.start, .int .i64 sL.len, .int .i64 sL.head, .int .i64 sL.seq, .int .i64 a, .int .i64 q, .int .i64 u, .bool b, .bool nu] 176, tblA pt, diskA pd D2, pgsA md (ov rs) hq, poolA hq], .inr (.inr ⟨c3_, D2, sure2, hcne, hwhy, ⟨hS2, hsu2⟩, hDn2, hvl2, rfl, rfl⟩), H⟩
set_option maxHeartbeats 2000000 in
theorem switch_c (ps pd pt pl md : Nat) (x sL : Sup) (mo : Value) (nu : Bool) (hq : Hp) (D : Dsk) (B : Nat → Pg) (rs : List Rc) (ptl : List (List UInt8)) (a q u : Int) (b : Bool) (sure : Nat) (hS : SInv D x B rs ptl a q u b sure) (hL : sL.start = x.start ∧ sL.len = x.len ∧ sL.epoch = x.epoch) (hqb : q ≤ 1099511627776) (hver : ∀ i, (D.ver i).length ≤ 1000000000000) (start len : Int) (he1 : x.epoch + 1 < 4294967296) : Cn Tryz.prog 53 [.pointer (some ⟨ps, 0, none⟩), .int .i64 start, .int .i64 len] [blk ps [.pointer (some ⟨pd, 0, none⟩), .pointer (some ⟨pt, 0, none⟩), .int .i64 x.gen, .int .i64 x.epoch, .int .i64 x.pages, .int .i64 x.start, .int .i64 x.len, .int .i64 x.head, .int .i64 x.seq, .pointer (some ⟨pl, 0, none⟩), .map (some md), .bool false, mo] 108, blk pl [.pointer (some ⟨pd, 0, none⟩), .pointer (some ⟨pt, 0, none⟩), .int .i64 sL.gen, .int .i64 sL.epoch, .int .i64 sL.pages, .int .i64 sL.start, .int .i64 sL.len, .int .i64 sL.head, .int .i64 sL.seq, .int .i64 a, .int .i64 q, .int .i64 u, .bool b, .bool nu] 176, tblA pt, diskA pd D, pgsA md (ov rs) hq, poolA hq] (fun v Γ => ((¬ ∀ n, ov rs n = none) ∧ v = .int .i64 17 ∧ Γ = [blk ps [.pointer (some ⟨pd, 0, none⟩), .pointer (some ⟨pt, 0, none⟩), .int .i64 x.gen, .int .i64 x.epoch, .int .i64 x.pages, .int .i64 x.start, .int .i64 x.len, .int .i64 x.head, .int .i64 x.seq, .pointer (some ⟨pl, 0, none⟩), .map (some md), .bool false, mo] 108, blk pl [.pointer (some ⟨pd, 0, none⟩), .pointer (some ⟨pt, 0, none⟩), .int .i64 sL.gen, .int .i64 sL.epoch, .int .i64 sL.pages, .int .i64 sL.start, .int .i64 sL.len, .int .i64 sL.head, .int .i64 sL.seq, .int .i64 a, .int .i64 q, .int .i64 u, .bool b, .bool nu] 176, tblA pt, diskA pd D, pgsA md (ov rs) hq, poolA hq]) ∨ ((∀ n, ov rs n = none) ∧ ¬ (swS x start len).Ok (D.n : Int) ∧ v = .int .i64 1 ∧ Γ = [blk ps [.pointer (some ⟨pd, 0, none⟩), .pointer (some ⟨pt, 0, none⟩), .int .i64 x.gen, .int .i64 x.epoch, .int .i64 x.pages, .int .i64 x.start, .int .i64 x.len, .int .i64 x.head, .int .i64 x.seq, .pointer (some ⟨pl, 0, none⟩), .map (some md), .bool false, mo] 108, blk pl [.pointer (some ⟨pd, 0, none⟩), .pointer (some ⟨pt, 0, none⟩), .int .i64 sL.gen, .int .i64 sL.epoch, .int .i64 sL.pages, .int .i64 sL.start, .int .i64 sL.len, .int .i64 sL.head, .int .i64 sL.seq, .int .i64 a, .int .i64 q, .int .i64 u, .bool b, .bool nu] 176, tblA pt, diskA pd D, pgsA md (ov rs) hq, poolA hq]) ∨ ((∀ n, ov rs n = none) ∧ (swS x start len).Ok (D.n : Int) ∧ D.bad ∧ v = .int .i64 11 ∧ Γ = [blk ps [.pointer (some ⟨pd, 0, none⟩), .pointer (some ⟨pt, 0, none⟩), .int .i64 x.gen, .int .i64 x.epoch, .int .i64 x.pages, .int .i64 x.start, .int .i64 x.len, .int .i64 x.head, .int .i64 x.seq, .pointer (some ⟨pl, 0, none⟩), .map (some md), .bool false, mo] 108, blk pl [.pointer (some ⟨pd, 0, none⟩), .pointer (some ⟨pt, 0, none⟩), .int .i64 sL.gen, .int .i64 sL.epoch, .int .i64 sL.pages, .int .i64 sL.start, .int .i64 sL.len, .int .i64 sL.head, .int .i64 sL.seq, .int .i64 a, .int .i64 q, .int .i64 u, .bool b, .bool nu] 176, tblA pt, diskA pd D.wf, pgsA md (ov rs) hq, poolA hq]) ∨ ((∀ n, ov rs n = none) ∧ (swS x start len).Ok (D.n : Int) ∧ ¬ D.bad ∧ ∃ pl2, SInv (svD D (swS x start len)) (swS x start len) B [] [] 0 1 0 false 0 ∧ v = .int .i64 0 ∧ Γ = [blk ps [.pointer (some ⟨pd, 0, none⟩), .pointer (some ⟨pt, 0, none⟩), .int .i64 ((swS x start len).gen), .int .i64 ((swS x start len).epoch), .int .i64 ((swS x start len).pages), .int .i64 ((swS x start len).start), .int .i64 ((swS x start len).len), .int .i64 ((swS x start len).head), .int .i64 ((swS x start len).seq), .pointer (some ⟨pl2, 0, none⟩), .map (some md), .bool false, mo] 108, blk pl2 [.pointer (some ⟨pd, 0, none⟩), .pointer (some ⟨pt, 0, none⟩), .int .i64 ((swS x start len).gen), .int .i64 ((swS x start len).epoch), .int .i64 ((swS x start len).pages), .int .i64 ((swS x start len).start), .int .i64 ((swS x start len).len), .int .i64 ((swS x start len).head), .int .i64 ((swS x start len).seq), .int .i64 0, .int .i64 1, .int .i64 0, .bool false, .bool (decide ((swS x start len).epoch < 4294967296))] 176, tblA pt, diskA pd (svD D (swS x start len)), pgsA md (ov rs) hq, poolA hq])) := by
 intro z R w H'; have H : Sep z (blk ps [.pointer (some ⟨pd, 0, none⟩), .pointer (some ⟨pt, 0, none⟩), .int .i64 x.gen, .int .i64 x.epoch, .int .i64 x.pages, .int .i64 x.start, .int .i64 x.len, .int .i64 x.head, .int .i64 x.seq, .pointer (some ⟨pl, 0, none⟩), .map (some md), .bool false, mo] 108 :: blk pl [.pointer (some ⟨pd, 0, none⟩), .pointer (some ⟨pt, 0, none⟩), .int .i64 sL.gen, .int .i64 sL.epoch, .int .i64 sL.pages, .int .i64 sL.start, .int .i64 sL.len, .int .i64 sL.head, .int .i64 sL.seq, .int .i64 a, .int .i64 q, .int .i64 u, .bool b, .bool nu] 176 :: tblA pt :: diskA pd D :: pgsA md (ov rs) hq :: poolA hq :: R) w := H'
 clear H'; have hok := hS.ok
 have hsg := Sup.get hok
 have hk2 := hok.2
 have hP := hS.p
 have hpa := hP.at_ok hS.s
 have hul := hP.ul
 have hfu := hP.fu
 have hgen := hS.gen
 have hfq := hP.fq
 have hsq := hS.s.seq
 have hq0 : 0 ≤ q := by split at hfq <;> omega
 have hhd := hS.s.head
 have hfbb : ∀ n, (ov rs n).isSome = true → n < 1024 := fun n h => by have := hS.ovb h; omega
 have hfnn : ∀ n, (ov rs n).isSome = true → 2 + n < D.n := fun n h => by have := hS.ovb h; omega
 have hn2d := H.says 3 rfl (fun h q => (diskA.ok q).n2)
 obtain ⟨es, clk, hpg, H'⟩ := H.pgs 4 rfl; clear H; have H := H'.l6; clear H'; refine enter Tryz.func53 rfl 77 Tryz.ntmps53 rfl (k_seq (s_region (s_M 1 rfl rfl (s_end (k_seq (k_seq (s_region (s_L 9 [11, 0, 10, 0] (mm1 (H.blk 0 rfl) mm0) rfl (by kernel_rfl) rfl (s_do rfl rfl rfl (d_lenM (e := 65) rfl (by kernel_rfl) rfl (here (H.bk 4 rfl))) (s_M 2 rfl rfl (s_end (k_dec rfl (fun h1 => ?_) (fun h1 => ?_)))))))))))))
 ·refine k_seq (s_region (s_M 1 rfl rfl (s_end (k_ret (doneL rfl [.int .i64 17] ⟨rfl, trivial⟩ (v := .int .i64 17) rfl ?_))))); have H' := H.toPgs 4 rfl hpg
  have H := H'.l6; clear H'; exact ⟨[blk ps [.pointer (some ⟨pd, 0, none⟩), .pointer (some ⟨pt, 0, none⟩), .int .i64 x.gen, .int .i64 x.epoch, .int .i64 x.pages, .int .i64 x.start, .int .i64 x.len, .int .i64 x.head, .int .i64 x.seq, .pointer (some ⟨pl, 0, none⟩), .map (some md), .bool false, mo] 108, blk pl [.pointer (some ⟨pd, 0, none⟩), .pointer (some ⟨pt, 0, none⟩), .int .i64 sL.gen, .int .i64 sL.epoch, .int .i64 sL.pages, .int .i64 sL.start, .int .i64 sL.len, .int .i64 sL.head, .int .i64 sL.seq, .int .i64 a, .int .i64 q, .int .i64 u, .bool b, .bool nu] 176, tblA pt, diskA pd D, pgsA md (ov rs) hq, poolA hq], .inl ⟨fun hn => by have hz := hpg.nil_iff.2 hn; simp at h1; omega, rfl, rfl⟩, H⟩
 ·refine k_skip (k_seq (s_region (s_Q 3 [2] rfl (by kernel_rfl) (s_do rfl rfl rfl (d_loadAgg rfl rfl (vs := [.int .i64 x.gen, .int .i64 x.epoch, .int .i64 x.pages, .int .i64 x.start, .int .i64 x.len, .int .i64 x.head, .int .i64 x.seq]) (by kernel_rfl) (here ((H.blk 0 rfl).part 2 7 _ rfl))) (s_go rfl rfl rfl (n_alloc (P := Tryz.prog) H rfl (zs := [.int .i64 0, .int .i64 0, .int .i64 0, .int .i64 0, .int .i64 0, .int .i64 0, .int .i64 0]) (by kernel_rfl)) ?_))))); rintro _ w ⟨b1, rfl, H'⟩; have H := H'.l7; clear H'; refine s_put rfl rfl (n_store 0 H rfl rfl rfl rfl (vs := [.int .i64 x.gen, .int .i64 x.epoch, .int .i64 x.pages, .int .i64 x.start, .int .i64 x.len, .int .i64 x.head, .int .i64 x.seq]) rfl (by simp [u8, u32, Value.oneCell']) (by kernel_rfl) (by simp) (out := [.int .i64 x.gen, .int .i64 x.epoch, .int .i64 x.pages, .int .i64 x.start, .int .i64 x.len, .int .i64 x.head, .int .i64 x.seq]) rfl) ?_; rintro w H'; have H := H'.l7; clear H'; refine s_end (k_seq (s_region (s_L 2 [0, 0] (mm1 (H.blk 0 rfl) mm0) rfl (by kernel_rfl) rfl (s_do rfl rfl rfl (d_add64 rfl rfl rfl (r := x.gen + 1) (by omega) (by omega)) (s_Q 1 [0] rfl (by kernel_rfl) (s_put rfl rfl (n_store 0 H rfl rfl rfl rfl (vs := [.int .i64 (x.gen + 1)]) rfl (by simp [u8, u32, Value.oneCell']) (by kernel_rfl) (by simp) (out := [.int .i64 (x.gen + 1), .int .i64 x.epoch, .int .i64 x.pages, .int .i64 x.start, .int .i64 x.len, .int .i64 x.head, .int .i64 x.seq]) rfl) ?_)))))); rintro w H'; have H := H'.l7; clear H'; refine s_end (k_seq (s_region (s_L 2 [1, 0] (mm1 (H.blk 0 rfl) mm0) rfl (by kernel_rfl) rfl (s_do rfl rfl rfl (d_add64 rfl rfl rfl (r := x.epoch + 1) (by omega) (by omega)) (s_Q 1 [1] rfl (by kernel_rfl) (s_put rfl rfl (n_store 0 H rfl rfl rfl rfl (vs := [.int .i64 (x.epoch + 1)]) rfl (by simp [u8, u32, Value.oneCell']) (by kernel_rfl) (by simp) (out := [.int .i64 (x.gen + 1), .int .i64 (x.epoch + 1), .int .i64 x.pages, .int .i64 x.start, .int .i64 x.len, .int .i64 x.head, .int .i64 x.seq]) rfl) ?_))))))
  rintro w H'; have H := H'.l7; clear H'; refine s_end (k_seq (s_region (s_Q 3 [3] rfl (by kernel_rfl) (s_put rfl rfl (n_store 0 H rfl rfl rfl rfl (vs := [.int .i64 start]) rfl (by simp [u8, u32, Value.oneCell']) (by kernel_rfl) (by simp) (out := [.int .i64 (x.gen + 1), .int .i64 (x.epoch + 1), .int .i64 x.pages, .int .i64 start, .int .i64 x.len, .int .i64 x.head, .int .i64 x.seq]) rfl) ?_)))); rintro w H'; have H := H'.l7; clear H'; refine s_Q 1 [4] rfl (by kernel_rfl) (s_put rfl rfl (n_store 0 H rfl rfl rfl rfl (vs := [.int .i64 len]) rfl (by simp [u8, u32, Value.oneCell']) (by kernel_rfl) (by simp) (out := [.int .i64 (x.gen + 1), .int .i64 (x.epoch + 1), .int .i64 x.pages, .int .i64 start, .int .i64 len, .int .i64 x.head, .int .i64 x.seq]) rfl) ?_); rintro w H'; have H := H'.l7; clear H'; refine s_Q 1 [5] rfl (by kernel_rfl) (s_put rfl rfl (n_store 0 H rfl rfl rfl rfl (vs := [.int .i64 0]) rfl (by simp [u8, u32, Value.oneCell']) (by kernel_rfl) (by simp) (out := [.int .i64 (x.gen + 1), .int .i64 (x.epoch + 1), .int .i64 x.pages, .int .i64 start, .int .i64 len, .int .i64 0, .int .i64 x.seq]) rfl) ?_); rintro w H'; have H := H'.l7; clear H'; refine s_Q 1 [6] rfl (by kernel_rfl) (s_put rfl rfl (n_store 0 H rfl rfl rfl rfl (vs := [.int .i64 1]) rfl (by simp [u8, u32, Value.oneCell']) (by kernel_rfl) (by simp) (out := [.int .i64 (x.gen + 1), .int .i64 (x.epoch + 1), .int .i64 x.pages, .int .i64 start, .int .i64 len, .int .i64 0, .int .i64 1]) rfl) ?_); rintro w H'; have H := H'.l7; clear H'; refine s_end (k_seq (k_seq (q_region (Sep z _) (by kernel_rfl) (by kernel_rfl) H.drew (q_do rfl rfl rfl (d_loadAgg rfl rfl (vs := [.int .i64 (x.gen + 1), .int .i64 (x.epoch + 1), .int .i64 x.pages, .int .i64 start, .int .i64 len, .int .i64 0, .int .i64 1]) (by kernel_rfl) (fun _ hx => (hx.blk 0 rfl).part 0 7 _ rfl)) (q_do rfl rfl rfl (d_move rfl rfl) (q_do rfl rfl rfl (d_nilCheck rfl rfl) (q_do rfl rfl rfl (d_field rfl (k := 0) (r := 0) (by kernel_rfl) rfl rfl) (q_do rfl rfl rfl (d_load rfl rfl (by kernel_rfl) (fun _ hx => hx.cel 1 rfl 0 rfl)) (q_call rfl rfl rfl rfl rfl (fun w => Tryz.call68 _ w) (v := .int .i64 (D.n : Int)) (cq (sizeD_c _ _) (by rintro _ _ ⟨rfl, rfl⟩; exact ⟨rfl, rfl⟩) 5 [4, 0, 1, 2, 3] [1, 2, 3, 4, 0] rfl rfl rfl rfl) (q_call rfl rfl rfl rfl rfl (fun w => Tryz.call50 _ w) (v := .int .i64 (if (Sup.mk (x.gen + 1) (x.epoch + 1) x.pages start len 0 1).Ok (D.n : Int) then 0 else 1)) (cq (check_c (Sup.mk (x.gen + 1) (x.epoch + 1) x.pages start len 0 1) _ (by omega)) (by rintro _ _ ⟨rfl, rfl⟩; exact ⟨rfl, rfl⟩) 0 [] [] rfl rfl rfl rfl) (q_do rfl rfl rfl (d_neq rfl rfl rfl) (q_end (fun w H' => ?_)))))))))))))
  have H := H'.l7; clear H'; refine k_dec rfl (fun h2 => ?_) (fun h2 => ?_)
  ·refine k_seq (s_region (s_M 1 rfl rfl (s_end (k_ret (doneL rfl [.int .i64 1] ⟨rfl, trivial⟩ (v := .int .i64 1) rfl ?_))))); have H' := H.toPgs 5 rfl hpg
   have H := H'.l7; clear H'; have hn0 := hpg.nil_iff.1 (by simpa using h1)
   exact ⟨[blk ps [.pointer (some ⟨pd, 0, none⟩), .pointer (some ⟨pt, 0, none⟩), .int .i64 x.gen, .int .i64 x.epoch, .int .i64 x.pages, .int .i64 x.start, .int .i64 x.len, .int .i64 x.head, .int .i64 x.seq, .pointer (some ⟨pl, 0, none⟩), .map (some md), .bool false, mo] 108, blk pl [.pointer (some ⟨pd, 0, none⟩), .pointer (some ⟨pt, 0, none⟩), .int .i64 sL.gen, .int .i64 sL.epoch, .int .i64 sL.pages, .int .i64 sL.start, .int .i64 sL.len, .int .i64 sL.head, .int .i64 sL.seq, .int .i64 a, .int .i64 q, .int .i64 u, .bool b, .bool nu] 176, tblA pt, diskA pd D, pgsA md (ov rs) hq, poolA hq], .inr (.inl ⟨hn0, fun hk => absurd (if_pos hk) h2, rfl, rfl⟩), H.perm 7 [1, 2, 3, 4, 5, 6] rfl rfl⟩
  ·refine k_skip (k_seq (k_seq ?_)); have hoky : (swS x start len).Ok (D.n : Int) := Decidable.byContradiction fun g_ => h2 (fun e => absurd ((if_neg g_).symm.trans e) (by decide))
   replace H := H.f1; refine a_region (Sep z (blk ps [.pointer (some ⟨pd, 0, none⟩), .pointer (some ⟨pt, 0, none⟩), .int .i64 x.gen, .int .i64 x.epoch, .int .i64 x.pages, .int .i64 x.start, .int .i64 x.len, .int .i64 x.head, .int .i64 x.seq, .pointer (some ⟨pl, 0, none⟩), .map (some md), .bool false, mo] 108 :: blk b1 [.int .i64 (x.gen + 1), .int .i64 (x.epoch + 1), .int .i64 x.pages, .int .i64 start, .int .i64 len, .int .i64 0, .int .i64 1] 49 :: R)) 11 rfl (by kernel_rfl) (fun w' x' _ => ?_); have H' := H.ext0 x'; clear x' H; revert H'; generalize w' = w; intro H'
   have H := H'.l7; clear H'; refine a_do 0 rfl (by kernel_rfl) (by kernel_rfl) (by kernel_rfl) rfl rfl rfl (d_move rfl rfl) (H.pick 7 [0, 1] rfl) (a_do 1 rfl (by kernel_rfl) (by kernel_rfl) (by kernel_rfl) rfl rfl rfl (d_nilCheck rfl rfl) (H.pick 7 [0, 1] rfl) (a_do 2 rfl (by kernel_rfl) (by kernel_rfl) (by kernel_rfl) rfl rfl rfl (d_field rfl (k := 0) (r := 0) (by kernel_rfl) rfl rfl) (H.pick 7 [0, 1] rfl) (a_do 3 rfl (by kernel_rfl) (by kernel_rfl) (by kernel_rfl) rfl rfl rfl (d_load rfl rfl (by kernel_rfl) (fun _ hx => hx.cel 0 rfl 0 rfl)) (H.pick 7 [0, 1] rfl) (a_do 4 rfl (by kernel_rfl) (by kernel_rfl) (by kernel_rfl) rfl rfl rfl (d_move rfl rfl) (H.pick 7 [0, 1] rfl) (a_do 5 rfl (by kernel_rfl) (by kernel_rfl) (by kernel_rfl) rfl rfl rfl (d_nilCheck rfl rfl) (H.pick 7 [0, 1] rfl) (a_do 6 rfl (by kernel_rfl) (by kernel_rfl) (by kernel_rfl) rfl rfl rfl (d_field rfl (k := 1) (r := 1) (by kernel_rfl) rfl rfl) (H.pick 7 [0, 1] rfl) (a_do 7 rfl (by kernel_rfl) (by kernel_rfl) (by kernel_rfl) rfl rfl rfl (d_load rfl rfl (by kernel_rfl) (fun _ hx => hx.cel 0 rfl 1 rfl)) (H.pick 7 [0, 1] rfl) (a_do 8 rfl (by kernel_rfl) (by kernel_rfl) (by kernel_rfl) rfl rfl rfl (d_loadAgg rfl rfl (vs := [.int .i64 (x.gen + 1), .int .i64 (x.epoch + 1), .int .i64 x.pages, .int .i64 start, .int .i64 len, .int .i64 0, .int .i64 1]) (by kernel_rfl) (fun _ hx => (hx.blk 1 rfl).part 0 7 _ rfl)) (H.pick 7 [0, 1] rfl) (a_all [9] (by kernel_rfl) (by simp) (all1 (o_C rfl rfl rfl rfl rfl rfl (fun w => Tryz.call70 _ w) (save_c _ _ _ (swS x start len) hoky (fun i => by have := hver i; omega)) H.f3.f4 rfl ?_)))))))))))
   rintro _ w _ (⟨hsb, rfl, rfl⟩ | ⟨hsb, rfl, rfl⟩) H'
   ·have H := H'.l7; clear H'; refine a_and (H.pick 7 [2, 3] rfl) (a_do 10 rfl (by kernel_rfl) (by kernel_rfl) (by kernel_rfl) rfl rfl rfl (d_assign rfl rfl) (H.pick 7 [2, 3] rfl) (a_done (by kernel_rfl) (k_seq (s_region (s_M 2 rfl rfl (k_updA 58 (u := .bool (decide ((11 : Int) ≠ 0))) (v := .bool true) rfl (congrArg Value.bool (by decide)) (s_end (k_true rfl (k_seq (s_region (s_M 2 rfl rfl (s_end (k_ret ?_))))))))))))); refine doneL rfl [.int .i64 11] ⟨rfl, trivial⟩ (v := .int .i64 11) rfl ?_; have H' := H.toPgs 5 rfl hpg
    have H := H'.l7; clear H'; have hn0 := hpg.nil_iff.1 (by simpa using h1)
    exact ⟨[blk ps [.pointer (some ⟨pd, 0, none⟩), .pointer (some ⟨pt, 0, none⟩), .int .i64 x.gen, .int .i64 x.epoch, .int .i64 x.pages, .int .i64 x.start, .int .i64 x.len, .int .i64 x.head, .int .i64 x.seq, .pointer (some ⟨pl, 0, none⟩), .map (some md), .bool false, mo] 108, blk pl [.pointer (some ⟨pd, 0, none⟩), .pointer (some ⟨pt, 0, none⟩), .int .i64 sL.gen, .int .i64 sL.epoch, .int .i64 sL.pages, .int .i64 sL.start, .int .i64 sL.len, .int .i64 sL.head, .int .i64 sL.seq, .int .i64 a, .int .i64 q, .int .i64 u, .bool b, .bool nu] 176, tblA pt, diskA pd D.wf, pgsA md (ov rs) hq, poolA hq], .inr (.inr (.inl ⟨hn0, hoky, hsb, rfl, rfl⟩)), H.perm 7 [2, 4, 1, 0, 5, 6] rfl rfl⟩
   ·have H := H'.l7; clear H'; refine a_and (H.pick 7 [2, 3] rfl) (a_do 10 rfl (by kernel_rfl) (by kernel_rfl) (by kernel_rfl) rfl rfl rfl (d_assign rfl rfl) (H.pick 7 [2, 3] rfl) (a_done (by kernel_rfl) (k_seq (s_region (s_M 2 rfl rfl (k_updA 58 (u := .bool (decide ((0 : Int) ≠ 0))) (v := .bool false) rfl (congrArg Value.bool (by decide)) (s_end (k_false rfl (k_skip (k_seq (s_region (s_M 1 rfl rfl (s_do rfl rfl rfl (d_loadAgg rfl rfl (vs := [.int .i64 (x.gen + 1), .int .i64 (x.epoch + 1), .int .i64 x.pages, .int .i64 start, .int .i64 len, .int .i64 0, .int .i64 1]) (by kernel_rfl) (here ((H.blk 3 rfl).part 0 7 _ rfl))) ?_))))))))))))); refine s_Q 2 [2] rfl (by kernel_rfl) (s_put rfl rfl (n_store 2 H rfl rfl rfl rfl (vs := [.int .i64 (x.gen + 1), .int .i64 (x.epoch + 1), .int .i64 x.pages, .int .i64 start, .int .i64 len, .int .i64 0, .int .i64 1]) rfl (by simp [u8, u32, Value.oneCell']) (by kernel_rfl) (by simp) (out := [.pointer (some ⟨pd, 0, none⟩), .pointer (some ⟨pt, 0, none⟩), .int .i64 (x.gen + 1), .int .i64 (x.epoch + 1), .int .i64 x.pages, .int .i64 start, .int .i64 len, .int .i64 0, .int .i64 1, .pointer (some ⟨pl, 0, none⟩), .map (some md), .bool false, mo]) rfl) ?_); rintro w H'; have H := H'.l7; clear H'; refine s_end (k_seq ?_); replace H := H.f3.f3; refine l_region (Sep z (blk ps [.pointer (some ⟨pd, 0, none⟩), .pointer (some ⟨pt, 0, none⟩), .int .i64 (x.gen + 1), .int .i64 (x.epoch + 1), .int .i64 x.pages, .int .i64 start, .int .i64 len, .int .i64 0, .int .i64 1, .pointer (some ⟨pl, 0, none⟩), .map (some md), .bool false, mo] 108 :: blk b1 [.int .i64 (x.gen + 1), .int .i64 (x.epoch + 1), .int .i64 x.pages, .int .i64 start, .int .i64 len, .int .i64 0, .int .i64 1] 49 :: R)) 14 rfl (by kernel_rfl) (fun w' x' _ => ?_)
    have H' := H.ext0 x'; clear x' H; revert H'; generalize w' = w; intro H'
    have H := H'.l7; clear H'; refine l_do 0 (by kernel_rfl) rfl rfl (by kernel_rfl) (by kernel_rfl) (by kernel_rfl) rfl rfl rfl (d_move rfl rfl) (H.pick 7 [0, 1] rfl) (l_do 1 (by kernel_rfl) rfl rfl (by kernel_rfl) (by kernel_rfl) (by kernel_rfl) rfl rfl rfl (d_move rfl rfl) (H.pick 7 [0, 1] rfl) (l_do 2 (by kernel_rfl) rfl rfl (by kernel_rfl) (by kernel_rfl) (by kernel_rfl) rfl rfl rfl (d_nilCheck rfl rfl) (H.pick 7 [0, 1] rfl) (l_do 3 (by kernel_rfl) rfl rfl (by kernel_rfl) (by kernel_rfl) (by kernel_rfl) rfl rfl rfl (d_field rfl (k := 0) (r := 0) (by kernel_rfl) rfl rfl) (H.pick 7 [0, 1] rfl) (l_do 4 (by kernel_rfl) rfl rfl (by kernel_rfl) (by kernel_rfl) (by kernel_rfl) rfl rfl rfl (d_load rfl rfl (by kernel_rfl) (fun _ hx => hx.cel 0 rfl 0 rfl)) (H.pick 7 [0, 1] rfl) (l_do 5 (by kernel_rfl) rfl rfl (by kernel_rfl) (by kernel_rfl) (by kernel_rfl) rfl rfl rfl (d_move rfl rfl) (H.pick 7 [0, 1] rfl) (l_do 6 (by kernel_rfl) rfl rfl (by kernel_rfl) (by kernel_rfl) (by kernel_rfl) rfl rfl rfl (d_nilCheck rfl rfl) (H.pick 7 [0, 1] rfl) (l_do 7 (by kernel_rfl) rfl rfl (by kernel_rfl) (by kernel_rfl) (by kernel_rfl) rfl rfl rfl (d_field rfl (k := 1) (r := 1) (by kernel_rfl) rfl rfl) (H.pick 7 [0, 1] rfl) (l_do 8 (by kernel_rfl) rfl rfl (by kernel_rfl) (by kernel_rfl) (by kernel_rfl) rfl rfl rfl (d_load rfl rfl (by kernel_rfl) (fun _ hx => hx.cel 0 rfl 1 rfl)) (H.pick 7 [0, 1] rfl) (l_do 9 (by kernel_rfl) rfl rfl (by kernel_rfl) (by kernel_rfl) (by kernel_rfl) rfl rfl rfl (d_loadAgg rfl rfl (vs := [.int .i64 (x.gen + 1), .int .i64 (x.epoch + 1), .int .i64 x.pages, .int .i64 start, .int .i64 len, .int .i64 0, .int .i64 1]) (by kernel_rfl) (fun _ hx => (hx.blk 1 rfl).part 0 7 _ rfl)) (H.pick 7 [0, 1] rfl) (l_all [10] (by kernel_rfl) (by simp) (all1 (o_C rfl rfl rfl rfl rfl rfl (fun w => Tryz.call67 _ w) (lnewD_c _ _ _ (swS x start len) (by exact hoky)) H.f2 rfl ?_))))))))))))
    rintro _ w _ ⟨pl2, rfl, rfl⟩ H'; have H := H'.l8; clear H'; refine l_and (fun _ => (H.pick 8 [2, 3] rfl)) (l_do 11 (by kernel_rfl) rfl rfl (by kernel_rfl) (by kernel_rfl) (by kernel_rfl) rfl rfl rfl (d_nilCheck rfl rfl) (H.pick 8 [2, 3] rfl) (l_do 12 (by kernel_rfl) rfl rfl (by kernel_rfl) (by kernel_rfl) (by kernel_rfl) rfl rfl rfl (d_field rfl (k := 9) (r := 9) (by kernel_rfl) rfl rfl) (H.pick 8 [2, 3] rfl) (l_all [13] (by kernel_rfl) (by simp) (all1 (o_put rfl rfl rfl (n_store 2 H rfl rfl rfl rfl (vs := [.pointer (some ⟨pl2, 0, none⟩)]) rfl (by simp [u8, u32, Value.oneCell']) (by kernel_rfl) (by simp) (out := [.pointer (some ⟨pd, 0, none⟩), .pointer (some ⟨pt, 0, none⟩), .int .i64 (x.gen + 1), .int .i64 (x.epoch + 1), .int .i64 x.pages, .int .i64 start, .int .i64 len, .int .i64 0, .int .i64 1, .pointer (some ⟨pl2, 0, none⟩), .map (some md), .bool false, mo]) rfl) ?_))))); rintro w H'; have H := H'.l8; clear H'; refine l_and (fun h => absurd rfl h) (l_done (by kernel_rfl) (k_seq (s_region (s_M 1 rfl rfl (s_end (k_ret (doneL rfl [.int .i64 0] ⟨rfl, trivial⟩ (v := .int .i64 0) rfl ?_))))))); have H' := H.toPgs 6 rfl hpg
    have H := H'.l8; clear H'; have hn0 := hpg.nil_iff.1 (by simpa using h1)
    exact ⟨[blk ps [.pointer (some ⟨pd, 0, none⟩), .pointer (some ⟨pt, 0, none⟩), .int .i64 (x.gen + 1), .int .i64 (x.epoch + 1), .int .i64 x.pages, .int .i64 start, .int .i64 len, .int .i64 0, .int .i64 1, .pointer (some ⟨pl2, 0, none⟩), .map (some md), .bool false, mo] 108, blk pl2 [.pointer (some ⟨pd, 0, none⟩), .pointer (some ⟨pt, 0, none⟩), .int .i64 ((swS x start len).gen), .int .i64 ((swS x start len).epoch), .int .i64 ((swS x start len).pages), .int .i64 ((swS x start len).start), .int .i64 ((swS x start len).len), .int .i64 ((swS x start len).head), .int .i64 ((swS x start len).seq), .int .i64 ((swS x start len).head), .int .i64 ((swS x start len).seq), .int .i64 0, .bool false, .bool (decide ((swS x start len).epoch < 4294967296))] 176, tblA pt, diskA pd (svD D (swS x start len)), pgsA md (ov rs) hq, poolA hq], .inr (.inr (.inr ⟨hn0, hoky, hsb, _, hS.switched he1 hn0 hqb hoky, rfl, rfl⟩)), H.perm 8 [2, 0, 4, 1, 6, 7] rfl rfl⟩
end Go.Proofs.YtbegkbjigbkljaaGreatDoor
namespace Go.Proofs.YtbegkbjigbkljaaGreatDoor
structure StG where
  x : Sup
  B : Nat → Pg
  rs : List Rc
  ptl : List (List UInt8)
  a : Int
  q : Int
  u : Int
  b : Bool
  sure : Nat
def StG.M (G : StG) : Nat → Pg := pgMap (ov G.rs) G.B
def StG.home (G : StG) : Prop := ∀ n, ov G.rs n = none
structure StX where
  pl : Nat
  pt : Nat
  md : Nat
  mm : Nat
  sL : Sup
  nu : Bool
  hq : Hp
abbrev Txn := Option (Pgs × Nat)
def ownV (mm : Nat) : Txn → Value
  | none => .map none
  | some _ => .map (some mm)
def ownL (mm : Nat) (hq : Hp) : Txn → List Asn
  | none => []
  | some o => [pgsC mm o.1 o.2 hq]
abbrev stoB (ps pd pt md : Nat) (x : Sup) (lp : Value) (un : Bool) (mo : Value) : Asn := blk ps [.pointer (some ⟨pd, 0, none⟩), .pointer (some ⟨pt, 0, none⟩), .int .i64 x.gen, .int .i64 x.epoch, .int .i64 x.pages, .int .i64 x.start, .int .i64 x.len, .int .i64 x.head, .int .i64 x.seq, lp, .map (some md), .bool un, mo] 108
abbrev logB (pl pd pt : Nat) (sL : Sup) (a q u : Int) (b nu : Bool) : Asn := blk pl [.pointer (some ⟨pd, 0, none⟩), .pointer (some ⟨pt, 0, none⟩), .int .i64 sL.gen, .int .i64 sL.epoch, .int .i64 sL.pages, .int .i64 sL.start, .int .i64 sL.len, .int .i64 sL.head, .int .i64 sL.seq, .int .i64 a, .int .i64 q, .int .i64 u, .bool b, .bool nu] 176
def stoL (ps pd : Nat) (D : Dsk) (G : StG) (own : Txn) (X : StX) : List Asn :=
  [stoB ps pd X.pt X.md G.x (.pointer (some ⟨X.pl, 0, none⟩)) own.isSome (ownV X.mm own), logB X.pl pd X.pt X.sL G.a G.q G.u G.b X.nu, tblA X.pt, diskA pd D, pgsA X.md (ov G.rs) X.hq, poolA X.hq] ++ ownL X.mm X.hq own
structure StP (D : Dsk) (G : StG) (own : Txn) (X : StX) : Prop where
  inv : SInv D G.x G.B G.rs G.ptl G.a G.q G.u G.b G.sure
  l : X.sL.start = G.x.start ∧ X.sL.len = G.x.len ∧ X.sL.epoch = G.x.epoch
  ok : X.sL.Ok (D.n : Int)
  nu : X.nu = decide (X.sL.epoch < 4294967296)
  own : ∀ o, own = some o → o.2 ≤ 40 ∧ ∀ n, (o.1 n).isSome = true → (n : Int) < G.x.pages
def stoA (ps pd : Nat) (D : Dsk) (G : StG) (own : Txn) : Asn := fun h => ∃ X, StP D G own X ∧ seps (stoL ps pd D G own X) h
structure Fine (D : Dsk) (G : StG) (m : Nat) : Prop where
  clean : Clean D
  b : G.b = false
  ver : ∀ i, (D.ver i).length ≤ m
  gen : G.x.gen ≤ m
  epoch : G.x.epoch ≤ m
  q : G.q ≤ m
theorem Fine.le {D : Dsk} {G : StG} {m m' : Nat} (h : Fine D G m) (e : m ≤ m') : Fine D G m' :=
  ⟨h.clean, h.b, fun i => Nat.le_trans (h.ver i) e, by have := h.gen; omega, by have := h.epoch; omega, by have := h.q; omega⟩
variable {z w : World} {Γ : List Asn} {ps pd : Nat} {D : Dsk} {G : StG} {own : Txn}
theorem Sep.sto (H : Sep z (stoA ps pd D G own :: Γ) w) : ∃ X, StP D G own X ∧ Sep z (stoL ps pd D G own X ++ Γ) w :=
  H.into (p := fun X => StP D G own X) (As := fun X => stoL ps pd D G own X) (fun _ q => q)
theorem Sep.toSto {X : StX} (n : Nat) (H : Sep z Γ w) (hX : StP D G own X) (hn : Γ.take n = stoL ps pd D G own X) : Sep z (stoA ps pd D G own :: Γ.drop n) w :=
  H.made n (fun h q => ⟨X, hX, by rwa [hn] at q⟩)
theorem stoA.inv {h : Hp} (a : stoA ps pd D G own h) : SInv D G.x G.B G.rs G.ptl G.a G.q G.u G.b G.sure := by
  obtain ⟨X, hX, _⟩ := a; exact hX.inv
theorem stoA.txn {h : Hp} {o : Pgs × Nat} (a : stoA ps pd D G (some o) h) : o.2 ≤ 40 ∧ ∀ n, (o.1 n).isSome = true → (n : Int) < G.x.pages := by
  obtain ⟨X, hX, _⟩ := a; exact hX.own o rfl
def curPg (M : Nat → Pg) : Txn → Nat → Pg
  | none, n => M n
  | some o, n => (o.1 n).getD (M n)
def opG (x : Sup) (B : Nat → Pg) : StG := ⟨opS x, B, [], [], 0, 1, 0, false, 0⟩
theorem home_M {G : StG} (h : G.home) : G.M = G.B := by funext n; show ((ov G.rs) n).getD _ = _; rw [h n]; rfl
/-! ### what is asked of a store -/
theorem open_s (pd : Nat) (D : Dsk) (x : Sup) (B : Nat → Pg) (Gd : List Rc → Prop) (m : Nat) (hO : OInv D x B Gd) (hcl : Clean D) (hg : x.gen ≤ m ∧ x.epoch ≤ m) (hm : m ≤ 1000000000) :
    Cn Tryz.prog 26 [.pointer (some ⟨pd, 0, none⟩)] [diskA pd D] (fun v Γ => ∃ (ps : Nat) (D2 : Dsk) (got : List Rc), Gd got ∧ Fine D2 (opG x (pgMap (ov got) B)) (m + 1) ∧ D2.n = D.n ∧ v = .tuple #[.pointer (some ⟨ps, 0, none⟩), .int .i64 0] ∧ Γ = [stoA ps pd D2 (opG x (pgMap (ov got) B)) none]) := by
  intro z R w H
  refine Ret.mono (sopen_c pd D x B Gd hO hcl (by omega) (by omega) z R w H) ?_
  rintro v w' ⟨Γ', ⟨ps, pl, pt, md, hq, D2, got, h1, h2, h3, h4, h5, rfl, rfl⟩, H'⟩
  refine ⟨_, ⟨ps, D2, got, h1, ⟨h3, rfl, fun i => by rw [h5]; simp, ?_, ?_, ?_⟩, h4, rfl, rfl⟩, H'.toSto (X := ⟨pl, pt, md, 0, opS x, decide ((opS x).epoch < 4294967296), hq⟩) 6 ⟨h2, ⟨rfl, rfl, rfl⟩, h2.ok, rfl, fun o e => (by cases e)⟩ rfl⟩
  · show x.gen + 1 ≤ _; omega
  · show x.epoch + 1 ≤ _; omega
  · show (1 : Int) ≤ _; omega
theorem begin_s (ps pd : Nat) (D : Dsk) (G : StG) : Cn Tryz.prog 18 [.pointer (some ⟨ps, 0, none⟩)] [stoA ps pd D G none] (fun v Γ => v = .int .i64 0 ∧ Γ = [stoA ps pd D G (some (noPgs, 0))]) := by
  intro z R w H
  obtain ⟨X, hX, H⟩ := H.sto
  refine Ret.mono (Cn.at (begin_c ps pd X.pt X.md G.x _ _) H 6 [0, 1, 2, 3, 4, 5] rfl rfl) ?_
  rintro v w' ⟨Γ', ⟨rfl, m, rfl⟩, H'⟩
  have H2 := H'.mono 1 (B := pgsC m noPgs 0 X.hq) rfl (fun h q => ⟨[], 0, PgsIn.none _ _, rfl, q⟩)
  have H3 := H2.pick 7 [0, 2, 3, 4, 5, 6, 1] rfl
  exact ⟨_, ⟨rfl, rfl⟩, H3.toSto (X := ⟨X.pl, X.pt, X.md, m, X.sL, X.nu, X.hq⟩) 7 ⟨hX.inv, hX.l, hX.ok, hX.nu, fun o e => by cases e; exact ⟨by omega, fun n h => (by cases h)⟩⟩ rfl⟩
theorem super_s (ps pd : Nat) (D : Dsk) (G : StG) (own : Txn) : Cn Tryz.prog 13 [.pointer (some ⟨ps, 0, none⟩)] [stoA ps pd D G own] (fun v Γ => v = .agg #[.int .i64 G.x.gen, .int .i64 G.x.epoch, .int .i64 G.x.pages, .int .i64 G.x.start, .int .i64 G.x.len, .int .i64 G.x.head, .int .i64 G.x.seq] ∧ Γ = [stoA ps pd D G own]) := by
  intro z R w H
  obtain ⟨X, hX, H⟩ := H.sto
  cases own with
  | none =>
    refine Ret.mono (Cn.at (super_c ps pd X.pt X.md G.x _ _ _) H 6 [0, 1, 2, 3, 4, 5] rfl rfl) ?_
    rintro v w' ⟨Γ', ⟨rfl, rfl⟩, H'⟩
    exact ⟨_, ⟨rfl, rfl⟩, H'.toSto (X := X) 6 hX rfl⟩
  | some o =>
    refine Ret.mono (Cn.at (super_c ps pd X.pt X.md G.x _ _ _) H 7 [0, 1, 2, 3, 4, 5, 6] rfl rfl) ?_
    rintro v w' ⟨Γ', ⟨rfl, rfl⟩, H'⟩
    exact ⟨_, ⟨rfl, rfl⟩, H'.toSto (X := X) 7 hX rfl⟩
theorem dirty_s (ps pd : Nat) (D : Dsk) (G : StG) (own : Txn) : Cn Tryz.prog 51 [.pointer (some ⟨ps, 0, none⟩)] [stoA ps pd D G own] (fun v Γ => ∃ ks : List Int, KsOk (ov G.rs) ks ∧ Γ = [grow 3 1 v ks.length (ks.map (Value.int .i64)), stoA ps pd D G own]) := by
  intro z R w H
  obtain ⟨X, hX, H⟩ := H.sto
  have hk := hX.inv.ok.2
  have hfb : ∀ n, (ov G.rs n).isSome = true → n < 1024 := fun n h => by have := hX.inv.ovb h; omega
  cases own with
  | none =>
    refine Ret.mono (Cn.at (sdirty_c ps pd X.pt X.md G.x _ _ _ (ov G.rs) X.hq hfb) H 6 [0, 4, 1, 2, 3, 5] rfl rfl) ?_
    rintro v w' ⟨Γ', ⟨ks, hks, rfl⟩, H'⟩
    have H3 := H'.pick 7 [1, 3, 4, 5, 2, 6, 0] rfl
    have H4 := H3.toSto (X := X) (ps := ps) (pd := pd) (D := D) (G := G) (own := none) 6 hX rfl
    exact ⟨_, ⟨ks, hks, rfl⟩, H4.pick 2 [1, 0] rfl⟩
  | some o =>
    refine Ret.mono (Cn.at (sdirty_c ps pd X.pt X.md G.x _ _ _ (ov G.rs) X.hq hfb) H 7 [0, 4, 1, 2, 3, 5, 6] rfl rfl) ?_
    rintro v w' ⟨Γ', ⟨ks, hks, rfl⟩, H'⟩
    have H3 := H'.pick 8 [1, 3, 4, 5, 2, 6, 7, 0] rfl
    have H4 := H3.toSto (X := X) (ps := ps) (pd := pd) (D := D) (G := G) (own := some o) 7 hX rfl
    exact ⟨_, ⟨ks, hks, rfl⟩, H4.pick 2 [1, 0] rfl⟩
theorem write_s (ps pd : Nat) (D : Dsk) (G : StG) (g : Pgs) (k : Nat) (n : Nat) (hn : (n : Int) < G.x.pages) (p : Pg) (hp : p.Ok) (bv : Value) (A : Asn) (hA : ∀ h, A h → rdH 1 bv 240 (p.body.map u8) h) :
    Cn Tryz.prog 19 [.pointer (some ⟨ps, 0, none⟩), .int .i64 (n : Int), .agg #[.int .i64 p.kind, bv]] [stoA ps pd D G (some (g, k)), A] (fun v Γ => ((g n = none ∧ 40 ≤ k) ∧ v = .int .i64 16 ∧ Γ = [stoA ps pd D G (some (g, k)), A]) ∨ (¬ (g n = none ∧ 40 ≤ k) ∧ v = .int .i64 0 ∧ Γ = [stoA ps pd D G (some (pgSet g n p, k + (if (g n).isSome then 0 else 1))), A])) := by
  intro z R w H
  obtain ⟨X, hX, H⟩ := H.sto
  obtain ⟨ho1, ho2⟩ := hX.own _ rfl
  refine Ret.mono (Cn.at (swrite_c ps pd X.pt X.md X.mm G.x _ g k X.hq n hn p hp bv A hA) H 8 [0, 6, 5, 7, 1, 2, 3, 4] rfl rfl) ?_
  rintro v w' ⟨Γ', (⟨h1, rfl, rfl⟩ | ⟨h1, hq2, hs, rfl, rfl⟩), H'⟩
  · have H3 := H'.pick 8 [0, 4, 5, 6, 7, 2, 1, 3] rfl
    exact ⟨_, .inl ⟨h1, rfl, rfl⟩, H3.toSto (X := X) (ps := ps) (pd := pd) (D := D) (G := G) (own := some (g, k)) 7 hX rfl⟩
  · have H3 := (H'.pick 8 [0, 4, 5, 6, 7, 2, 1, 3] rfl).mono 4 (B := pgsA X.md (ov G.rs) hq2) rfl (fun h q => pgsA.le hs h q)
    refine ⟨_, .inr ⟨h1, rfl, rfl⟩, H3.toSto (X := ⟨X.pl, X.pt, X.md, X.mm, X.sL, X.nu, hq2⟩) (ps := ps) (pd := pd) (D := D) (G := G) (own := some (pgSet g n p, k + (if (g n).isSome then 0 else 1))) 7 ⟨hX.inv, hX.l, hX.ok, hX.nu, fun o e => ?_⟩ rfl⟩
    cases e
    refine ⟨?_, fun i hi => ?_⟩
    · show k + (if (g n).isSome then 0 else 1) ≤ 40
      split
      · exact ho1
      · rename_i hs2
        have hgn : g n = none := by simpa using hs2
        have : ¬ 40 ≤ k := fun e => h1 ⟨hgn, e⟩
        omega
    · have hi' : (pgSet g n p i).isSome = true := hi
      unfold pgSet at hi'
      split at hi'
      · rename_i e; subst e; exact hn
      · exact ho2 i hi'
theorem read_s (ps pd : Nat) (D : Dsk) (G : StG) (own : Txn) (n : Nat) (hn : (n : Int) < G.x.pages) (hf1 : D.f1 = 0) (q : Pg) (hq : q = curPg G.M own n) :
    Cn Tryz.prog 22 [.pointer (some ⟨ps, 0, none⟩), .int .i64 (n : Int)] [stoA ps pd D G own] (fun v Γ => (q = noPg ∧ v = .tuple #[.agg #[.int .i64 0, .slice none 0 0], .int .i64 0] ∧ Γ = [stoA ps pd D G own]) ∨ (q.Ok ∧ ∃ v1, v = .tuple #[.agg #[.int .i64 q.kind, v1], .int .i64 0] ∧ Γ = [grow 5 1 v1 240 (q.body.map u8), stoA ps pd D G own])) := by
  intro z R w H
  obtain ⟨X, hX, H⟩ := H.sto
  cases own with
  | none =>
    refine Ret.mono (Cn.at (sreadN_c ps pd X.pt X.md G.x _ _ (ov G.rs) X.hq D n hn hf1 hX.inv.ok q (G.B n) hq (fun e => hX.inv.cur hn e)) H 6 [0, 2, 3, 4, 5, 1] rfl rfl) ?_
    rintro v w' ⟨Γ', (⟨h1, rfl, rfl⟩ | ⟨h1, v1, rfl, rfl⟩), H'⟩
    · have H3 := H'.pick 6 [0, 5, 1, 2, 3, 4] rfl
      exact ⟨_, .inl ⟨h1, rfl, rfl⟩, H3.toSto (X := X) (ps := ps) (pd := pd) (D := D) (G := G) (own := none) 6 hX rfl⟩
    · have H3 := H'.pick 7 [1, 6, 2, 3, 4, 5, 0] rfl
      have H4 := H3.toSto (X := X) (ps := ps) (pd := pd) (D := D) (G := G) (own := none) 6 hX rfl
      exact ⟨_, .inr ⟨h1, v1, rfl, rfl⟩, H4.pick 2 [1, 0] rfl⟩
  | some o =>
    refine Ret.mono (Cn.at (sreadO_c ps pd X.pt X.md X.mm G.x _ _ (ov G.rs) o.1 o.2 X.hq D n hn hf1 hX.inv.ok q (G.B n) (by rw [hq]; show (o.1 n).getD ((ov G.rs n).getD (G.B n)) = _; cases o.1 n <;> rfl) (fun e => hX.inv.cur hn (by cases h1 : o.1 n with | none => rw [h1] at e; exact e | some y => rw [h1] at e; cases e))) H 7 [0, 2, 3, 4, 6, 5, 1] rfl rfl) ?_
    rintro v w' ⟨Γ', (⟨h1, rfl, rfl⟩ | ⟨h1, v1, rfl, rfl⟩), H'⟩
    · have H3 := H'.pick 7 [0, 6, 1, 2, 3, 5, 4] rfl
      exact ⟨_, .inl ⟨h1, rfl, rfl⟩, H3.toSto (X := X) (ps := ps) (pd := pd) (D := D) (G := G) (own := some o) 7 hX rfl⟩
    · have H3 := H'.pick 8 [1, 7, 2, 3, 4, 6, 5, 0] rfl
      have H4 := H3.toSto (X := X) (ps := ps) (pd := pd) (D := D) (G := G) (own := some o) 7 hX rfl
      exact ⟨_, .inr ⟨h1, v1, rfl, rfl⟩, H4.pick 2 [1, 0] rfl⟩
theorem commit_s (ps pd : Nat) (D : Dsk) (G : StG) (g : Pgs) (k m : Nat) (hF : Fine D G m) (hm : m ≤ 1000000000) :
    Cn Tryz.prog 21 [.pointer (some ⟨ps, 0, none⟩)] [stoA ps pd D G (some (g, k))] (fun v Γ => ∃ (D2 : Dsk) (G2 : StG), Fine D2 G2 (m + 2) ∧ D2.n = D.n ∧ (G2.M = curPg G.M (some (g, k)) ∧ ∀ n, (g n).isSome = true → (ov G2.rs n).isSome = true) ∧ (G2.x = G.x ∨ G2.x = ckS G.x G.a G.q) ∧ v = .int .i64 0 ∧ Γ = [stoA ps pd D2 G2 none]) := by
  intro z R w H
  obtain ⟨X, hX, H⟩ := H.sto
  obtain ⟨ho1, ho2⟩ := hX.own _ rfl
  have h1 := hF.gen
  have h2 := hF.epoch
  have h3 := hF.q
  have hL := hX.l
  have hc := ckS_f G.x G.a G.q
  refine Ret.mono (Cn.at (commit_c ps pd X.pt X.pl X.md X.mm G.x X.sL X.nu X.hq g k D G.B G.rs G.ptl G.a G.q G.u G.b G.sure hX.inv hX.l hX.ok hX.nu (by omega) (fun i => by have := hF.ver i; omega) ho2 ho1) H 7 [0, 1, 2, 3, 4, 6, 5] rfl rfl) ?_
  rintro v w' ⟨Γ', (⟨h4, rfl, rfl⟩ | ⟨h4, hq2, D2, x2, B2, rs2, a2, u2, sure2, hs, hS2, ⟨hM2, hsm2⟩, hx2, hcl2, hD2, rfl, rfl⟩ | ⟨_, c, hq2, D2, x2, B2, rs2, ptl2, a2, q2, u2, b2, sure2, hne, hw, _⟩), H'⟩
  · subst h4
    have hg : ∀ n, g n = none := H.says 6 rfl (fun h q => by obtain ⟨es, clk, h1, h2, _⟩ := q; exact h1.nil_iff.1 h2)
    exact ⟨_, ⟨D, G, hF.le (by omega), rfl, ⟨by funext n; show _ = (g n).getD _; rw [hg]; rfl, fun n hn => by rw [hg] at hn; cases hn⟩, .inl rfl, rfl, rfl⟩, H'.toSto (X := X) 6 ⟨hX.inv, hX.l, hX.ok, hX.nu, fun o e => (by cases e)⟩ rfl⟩
  · have hx3 : x2.start = G.x.start ∧ x2.len = G.x.len ∧ x2.epoch = G.x.epoch ∧ x2.gen ≤ G.x.gen + 1 ∧ G.x.gen ≤ x2.gen := by
      rcases hx2 with rfl | rfl
      · exact ⟨rfl, rfl, rfl, by omega, by omega⟩
      · exact ⟨rfl, rfl, rfl, by omega, by omega⟩
    refine ⟨_, ⟨D2, ⟨x2, B2, rs2, [], a2, G.q + 1, u2, false, sure2⟩, ⟨hcl2 hF.clean, rfl, fun i => by have := hD2.2 i; have := hF.ver i; omega, by show x2.gen ≤ _; omega, by show x2.epoch ≤ _; omega, by show G.q + 1 ≤ _; omega⟩, hD2.1, ⟨?_, hsm2⟩, hx2, rfl, rfl⟩, H'.toSto (X := ⟨X.pl, X.pt, X.md, X.mm, X.sL, X.nu, hq2⟩) 6 ⟨hS2, by show X.sL.start = x2.start ∧ X.sL.len = x2.len ∧ X.sL.epoch = x2.epoch; omega, by rw [hD2.1]; exact hX.ok, hX.nu, fun o e => (by cases e)⟩ rfl⟩
    show pgMap (ov rs2) B2 = _
    rw [hM2, pgMap_ov]; rfl
  · rcases hw with g | g
    · exact absurd hF.clean g
    · omega
def swG (G : StG) (s l : Int) : StG := ⟨swS G.x s l, G.B, [], [], 0, 1, 0, false, 0⟩
end Go.Proofs.YtbegkbjigbkljaaGreatDoor
namespace Go.Proofs.YtbegkbjigbkljaaGreatDoor
structure Bnd (D : Dsk) (G : StG) (m : Nat) : Prop where
  ver : ∀ i, (D.ver i).length ≤ m
  gen : G.x.gen ≤ m
  epoch : G.x.epoch ≤ m
  q : G.q ≤ m
theorem Bnd.le {D : Dsk} {G : StG} {m m' : Nat} (h : Bnd D G m) (e : m ≤ m') : Bnd D G m' :=
  ⟨fun i => by have := h.ver i; omega, by have := h.gen; omega, by have := h.epoch; omega, by have := h.q; omega⟩
theorem Fine.bnd {D : Dsk} {G : StG} {m : Nat} (h : Fine D G m) : Bnd D G m := ⟨h.ver, h.gen, h.epoch, h.q⟩
theorem Bnd.fine {D : Dsk} {G : StG} {m : Nat} (h : Bnd D G m) (a : Clean D ∧ G.b = false) : Fine D G m := ⟨a.1, a.2, h.ver, h.gen, h.epoch, h.q⟩
structure Mv (D : Dsk) (G : StG) (D2 : Dsk) (G2 : StG) : Prop where
  n : D2.n = D.n
  M : G2.M = G.M
  pages : G2.x.pages = G.x.pages
  sure : G.sure = G.rs.length → G2.sure = G2.rs.length
theorem Mv.refl (D : Dsk) (G : StG) : Mv D G D G := ⟨rfl, rfl, rfl, fun h => h⟩
theorem Mv.trans {D D2 D3 : Dsk} {G G2 G3 : StG} (h : Mv D G D2 G2) (h' : Mv D2 G2 D3 G3) : Mv D G D3 G3 := ⟨h'.n.trans h.n, h'.M.trans h.M, h'.pages.trans h.pages, fun e => h'.sure (h.sure e)⟩
theorem check_g (ps pd : Nat) (D : Dsk) (G : StG) (m : Nat) (hF : Bnd D G m) (hm : m ≤ 1000000000) :
    Cn Tryz.prog 52 [.pointer (some ⟨ps, 0, none⟩)] [stoA ps pd D G none] (fun v Γ => ∃ (c : Int) (D2 : Dsk) (G2 : StG), Bnd D2 G2 (m + 1) ∧ Mv D G D2 G2 ∧ (G2.x.start = G.x.start ∧ G2.x.len = G.x.len) ∧ (Clean D ∧ G.b = false → c = 0 ∧ (Clean D2 ∧ G2.b = false) ∧ G2.home) ∧ v = .int .i64 c ∧ Γ = [stoA ps pd D2 G2 none]) := by
  intro z R w H
  obtain ⟨X, hX, H⟩ := H.sto
  have h1 := hF.gen
  have h2 := hF.epoch
  have h3 := hF.q
  refine Ret.mono (Cn.at (check_pt_c ps pd X.pt X.pl X.md G.x X.sL _ X.nu X.hq D G.B G.rs G.ptl G.a G.q G.u G.b G.sure hX.inv hX.l (by omega) (fun i => by have := hF.ver i; omega)) H 6 [0, 1, 2, 3, 4, 5] rfl rfl) ?_
  rintro v w' ⟨Γ', (⟨hn, hb, hu, rfl, rfl⟩ | ⟨D2, hne, hS2, hcl2, hn2, hv2, rfl, rfl⟩ | ⟨c, D2, sure2, hne, hw, ⟨hS2, hsu⟩, hn2, hv2, rfl, rfl⟩), H'⟩
  · exact ⟨_, ⟨0, D, G, hF.le (by omega), Mv.refl D G, ⟨rfl, rfl⟩, fun a => ⟨rfl, a, hn⟩, rfl, rfl⟩, H'.toSto (X := X) 6 hX rfl⟩
  · exact ⟨_, ⟨0, D2, ⟨ckS G.x G.a G.q, pgMap (ov G.rs) G.B, [], [], G.a, G.q, 0, false, 0⟩, ⟨fun i => by rw [hv2]; simp, by show G.x.gen + 1 ≤ _; omega, by show G.x.epoch ≤ _; omega, by show G.q ≤ _; omega⟩, ⟨hn2, rfl, rfl, fun _ => rfl⟩, ⟨rfl, rfl⟩, fun a => ⟨rfl, ⟨hcl2 a.1, rfl⟩, fun _ => rfl⟩, rfl, rfl⟩, H'.toSto (X := X) 6 ⟨hS2, hX.l, by rw [hn2]; exact hX.ok, hX.nu, fun o e => (by cases e)⟩ rfl⟩
  · have hs2 := hS2.p.sure
    exact ⟨_, ⟨c, D2, { G with sure := sure2 }, ⟨fun i => by have := hv2 i; have := hF.ver i; omega, by show G.x.gen ≤ _; omega, by show G.x.epoch ≤ _; omega, by show G.q ≤ _; omega⟩, ⟨hn2, rfl, rfl, fun e => by show sure2 = G.rs.length; omega⟩, ⟨rfl, rfl⟩, fun a => by
      rcases hw with g | g
      · exact absurd a.1 g
      · omega, rfl, rfl⟩, H'.toSto (X := X) 6 ⟨hS2, hX.l, by rw [hn2]; exact hX.ok, hX.nu, fun o e => (by cases e)⟩ rfl⟩
theorem switch_g (ps pd : Nat) (D : Dsk) (G : StG) (m : Nat) (hF : Bnd D G m) (hm : m ≤ 1000000000) (s l : Int) (hh : G.home) :
    Cn Tryz.prog 53 [.pointer (some ⟨ps, 0, none⟩), .int .i64 s, .int .i64 l] [stoA ps pd D G none] (fun v Γ => (∃ (c : Int) (D2 : Dsk), c ≠ 0 ∧ Bnd D2 G (m + 1) ∧ Mv D G D2 G ∧ (Clean D → (swS G.x s l).Ok (D.n : Int) → False) ∧ v = .int .i64 c ∧ Γ = [stoA ps pd D2 G none]) ∨ (∃ D2 : Dsk, Bnd D2 (swG G s l) (m + 1) ∧ Mv D G D2 (swG G s l) ∧ (Clean D → Clean D2) ∧ v = .int .i64 0 ∧ Γ = [stoA ps pd D2 (swG G s l) none])) := by
  intro z R w H
  obtain ⟨X, hX, H⟩ := H.sto
  have h1 := hF.gen
  have h2 := hF.epoch
  have h3 := hF.q
  refine Ret.mono (Cn.at (switch_c ps pd X.pt X.pl X.md G.x X.sL _ X.nu X.hq D G.B G.rs G.ptl G.a G.q G.u G.b G.sure hX.inv hX.l (by omega) (fun i => by have := hF.ver i; omega) s l (by omega)) H 6 [0, 1, 2, 3, 4, 5] rfl rfl) ?_
  rintro v w' ⟨Γ', (⟨hn, rfl, rfl⟩ | ⟨hn, hy, rfl, rfl⟩ | ⟨hn, hy, hb, rfl, rfl⟩ | ⟨hn, hy, _, pl2, hS2, rfl, rfl⟩), H'⟩
  · exact absurd hh hn
  · exact ⟨_, .inl ⟨1, D, by decide, hF.le (by omega), Mv.refl D G, fun _ h => hy h, rfl, rfl⟩, H'.toSto (X := X) 6 hX rfl⟩
  · exact ⟨_, .inl ⟨11, D.wf, by decide, ⟨fun i => by have := hF.ver i; show (D.ver i).length ≤ _; omega, by omega, by omega, by omega⟩, ⟨rfl, rfl, rfl, fun e => e⟩, fun a _ => a.bad hb, rfl, rfl⟩, H'.toSto (X := X) 6 ⟨hX.inv.f rfl rfl rfl, hX.l, hX.ok, hX.nu, hX.own⟩ rfl⟩
  · have hr := ov_none hn (fun j r h => (hX.inv.p.recs j r h).2.1.1)
    have H4 := H'.mono 4 (B := pgsA X.md noPgs X.hq) rfl (fun h q => by rw [hr] at q; exact q)
    refine ⟨_, .inr ⟨svD D (swS G.x s l), ⟨fun i => ?_, by show G.x.gen + 1 ≤ _; omega, by show G.x.epoch + 1 ≤ _; omega, by show (1 : Int) ≤ _; omega⟩, ⟨rfl, ?_, rfl, fun _ => rfl⟩, fun a => a.sv _, rfl, rfl⟩, H4.toSto (X := ⟨pl2, X.pt, X.md, X.mm, swS G.x s l, decide ((swS G.x s l).epoch < 4294967296), X.hq⟩) 6 ⟨hS2, ⟨rfl, rfl, rfl⟩, hy, rfl, fun o e => (by cases e)⟩ rfl⟩
    · by_cases e : i = ((swS G.x s l).gen % 2).toNat
      · rw [e, (sv_here D _).2]; simp
      · rw [(sv_out D _ i e).2]; have := hF.ver i; omega
    · rw [home_M hh]; exact home_M (G := swG G s l) (fun _ => rfl)
theorem write_r (ps pd : Nat) (D : Dsk) (G : StG) (g : Pgs) (k : Nat) (p : Int) (hp : p < 0 ∨ G.x.pages ≤ p) (kd : Int) (bv : Value) (hbv : bv.oneCell' = true) :
    Cn Tryz.prog 19 [.pointer (some ⟨ps, 0, none⟩), .int .i64 p, .agg #[.int .i64 kd, bv]] [stoA ps pd D G (some (g, k))] (fun v Γ => v = .int .i64 2 ∧ Γ = [stoA ps pd D G (some (g, k))]) := by
  intro z R w H
  obtain ⟨X, hX, H⟩ := H.sto
  obtain ⟨ho1, ho2⟩ := hX.own _ rfl
  refine Ret.mono (Cn.at (swriteR_c ps pd X.pt X.md X.mm G.x _ g k X.hq p hp ho2 kd bv hbv) H 7 [0, 6, 1, 2, 3, 4, 5] rfl rfl) ?_
  rintro v w' ⟨Γ', ⟨rfl, rfl⟩, H'⟩
  exact ⟨_, ⟨rfl, rfl⟩, (H'.pick 7 [0, 2, 3, 4, 5, 6, 1] rfl).toSto (X := X) (ps := ps) (pd := pd) (D := D) (G := G) (own := some (g, k)) 7 hX rfl⟩
end Go.Proofs.YtbegkbjigbkljaaGreatDoor
namespace Go.Proofs.YtbegkbjigbkljaaGreatDoor
open Go.RowKit
theorem rnew_c (ps : Nat) : Cn Tryz.prog 11 [.pointer (some ⟨ps, 0, none⟩), .int .i64 400] [] (fun v Γ => ∃ pm, v = .pointer (some ⟨pm, 0, none⟩) ∧ Γ = [blk pm [.pointer (some ⟨ps, 0, none⟩), .int .i64 400, .pointer none] 103]) := by
 intro z R w H'; have H : Sep z (R) w := H'
 clear H'; refine enter Tryz.func11 rfl 11 Tryz.ntmps11 rfl (k_seq (s_region (s_M 1 rfl rfl (s_end (k_seq (k_seq (s_region (s_M 1 rfl rfl (s_do rfl rfl rfl (d_eql_pn rfl (by kernel_rfl) rfl rfl) (s_end (k_false rfl (k_skip (k_seq ?_))))))))))))); refine s_region (s_M 2 rfl rfl (s_do rfl rfl rfl (d_build rfl rfl (out := [.pointer (some ⟨ps, 0, none⟩), .int .i64 400, .pointer none]) (by kernel_rfl)) (s_go rfl rfl rfl (n_box H rfl rfl (cs := [.pointer (some ⟨ps, 0, none⟩), .int .i64 400, .pointer none]) rfl) ?_))); rintro _ w ⟨b1, rfl, H'⟩; have H := H'.l1; clear H'; refine s_M 1 rfl rfl (s_end (k_ret (doneL rfl [.pointer (some ⟨b1, 0, none⟩)] ⟨rfl, trivial⟩ (v := .pointer (some ⟨b1, 0, none⟩)) rfl ?_))); exact ⟨[blk b1 [.pointer (some ⟨ps, 0, none⟩), .int .i64 400, .pointer none] 103], ⟨_, rfl, rfl⟩, H⟩
theorem rnew0_c  : Cn Tryz.prog 11 [.pointer none, .int .i64 400] [] (fun v Γ => v = .pointer none ∧ Γ = []) := by
 intro z R w H'; have H : Sep z (R) w := H'
 clear H'; refine enter Tryz.func11 rfl 11 Tryz.ntmps11 rfl (k_seq (s_region (s_M 1 rfl rfl (s_end (k_seq (k_seq (s_region (s_M 1 rfl rfl (s_do rfl rfl rfl (d_eql_nn rfl (by kernel_rfl) rfl rfl) (s_end (k_true rfl (k_seq (s_region ?_))))))))))))); refine s_M 1 rfl rfl (s_end (k_ret (doneL rfl [.pointer none] ⟨rfl, trivial⟩ (v := .pointer none) rfl ?_))); exact ⟨[], ⟨rfl, rfl⟩, H⟩
theorem busy0_c (pm ps : Nat) : Cn Tryz.prog 14 [.pointer (some ⟨pm, 0, none⟩)] [blk pm [.pointer (some ⟨ps, 0, none⟩), .int .i64 400, .pointer none] 103] (fun v Γ => v = .bool false ∧ Γ = [blk pm [.pointer (some ⟨ps, 0, none⟩), .int .i64 400, .pointer none] 103]) := by
 intro z R w H'; have H : Sep z (blk pm [.pointer (some ⟨ps, 0, none⟩), .int .i64 400, .pointer none] 103 :: R) w := H'
 clear H'; refine enter Tryz.func14 rfl 8 Tryz.ntmps14 rfl (k_seq (s_region (s_M 1 rfl rfl (s_end (k_seq (s_region (s_L 4 [2, 0] (mm1 (H.blk 0 rfl) mm0) rfl (by kernel_rfl) rfl (s_do rfl rfl rfl (d_neq_nn rfl (by kernel_rfl) rfl rfl) (s_M 1 rfl rfl (s_end (k_ret (doneL rfl [.bool false] ⟨rfl, trivial⟩ (v := .bool false) rfl ?_)))))))))))); exact ⟨[blk pm [.pointer (some ⟨ps, 0, none⟩), .int .i64 400, .pointer none] 103], ⟨rfl, rfl⟩, H⟩
theorem cancel0_c (pm ps : Nat) : Cn Tryz.prog 17 [.pointer (some ⟨pm, 0, none⟩)] [blk pm [.pointer (some ⟨ps, 0, none⟩), .int .i64 400, .pointer none] 103] (fun v Γ => v = .tuple #[] ∧ Γ = [blk pm [.pointer (some ⟨ps, 0, none⟩), .int .i64 400, .pointer none] 103]) := by
 intro z R w H'; have H : Sep z (blk pm [.pointer (some ⟨ps, 0, none⟩), .int .i64 400, .pointer none] 103 :: R) w := H'
 clear H'; refine enter Tryz.func17 rfl 5 Tryz.ntmps17 rfl (s_region (s_Q 3 [2] rfl (by kernel_rfl) (s_put rfl rfl (n_store 0 H rfl rfl rfl rfl (vs := [.pointer none]) rfl (by simp [u8, u32, Value.oneCell']) (by kernel_rfl) (by simp) (out := [.pointer (some ⟨ps, 0, none⟩), .int .i64 400, .pointer none]) rfl) ?_))); rintro w H'; have H := H'.l1; clear H'; refine s_end (doneL rfl [] trivial (v := .tuple #[]) rfl ?_); exact ⟨[blk pm [.pointer (some ⟨ps, 0, none⟩), .int .i64 400, .pointer none] 103], ⟨rfl, rfl⟩, H⟩
theorem busy1_c (pm ps pl : Nat) : Cn Tryz.prog 14 [.pointer (some ⟨pm, 0, none⟩)] [blk pm [.pointer (some ⟨ps, 0, none⟩), .int .i64 400, .pointer (some ⟨pl, 0, none⟩)] 103] (fun v Γ => v = .bool true ∧ Γ = [blk pm [.pointer (some ⟨ps, 0, none⟩), .int .i64 400, .pointer (some ⟨pl, 0, none⟩)] 103]) := by
 intro z R w H'; have H : Sep z (blk pm [.pointer (some ⟨ps, 0, none⟩), .int .i64 400, .pointer (some ⟨pl, 0, none⟩)] 103 :: R) w := H'
 clear H'; refine enter Tryz.func14 rfl 8 Tryz.ntmps14 rfl (k_seq (s_region (s_M 1 rfl rfl (s_end (k_seq (s_region (s_L 4 [2, 0] (mm1 (H.blk 0 rfl) mm0) rfl (by kernel_rfl) rfl (s_do rfl rfl rfl (d_neq_pn rfl (by kernel_rfl) rfl rfl) (s_M 1 rfl rfl (s_end (k_ret (doneL rfl [.bool true] ⟨rfl, trivial⟩ (v := .bool true) rfl ?_)))))))))))); exact ⟨[blk pm [.pointer (some ⟨ps, 0, none⟩), .int .i64 400, .pointer (some ⟨pl, 0, none⟩)] 103], ⟨rfl, rfl⟩, H⟩
theorem cancel1_c (pm ps pl : Nat) : Cn Tryz.prog 17 [.pointer (some ⟨pm, 0, none⟩)] [blk pm [.pointer (some ⟨ps, 0, none⟩), .int .i64 400, .pointer (some ⟨pl, 0, none⟩)] 103] (fun v Γ => v = .tuple #[] ∧ Γ = [blk pm [.pointer (some ⟨ps, 0, none⟩), .int .i64 400, .pointer none] 103]) := by
 intro z R w H'; have H : Sep z (blk pm [.pointer (some ⟨ps, 0, none⟩), .int .i64 400, .pointer (some ⟨pl, 0, none⟩)] 103 :: R) w := H'
 clear H'; refine enter Tryz.func17 rfl 5 Tryz.ntmps17 rfl (s_region (s_Q 3 [2] rfl (by kernel_rfl) (s_put rfl rfl (n_store 0 H rfl rfl rfl rfl (vs := [.pointer none]) rfl (by simp [u8, u32, Value.oneCell']) (by kernel_rfl) (by simp) (out := [.pointer (some ⟨ps, 0, none⟩), .int .i64 400, .pointer none]) rfl) ?_))); rintro w H'; have H := H'.l1; clear H'; refine s_end (doneL rfl [] trivial (v := .tuple #[]) rfl ?_); exact ⟨[blk pm [.pointer (some ⟨ps, 0, none⟩), .int .i64 400, .pointer none] 103], ⟨rfl, rfl⟩, H⟩
theorem ask1_c (pm ps pl : Nat) (s l : Int) : Cn Tryz.prog 15 [.pointer (some ⟨pm, 0, none⟩), .int .i64 s, .int .i64 l] [blk pm [.pointer (some ⟨ps, 0, none⟩), .int .i64 400, .pointer (some ⟨pl, 0, none⟩)] 103] (fun v Γ => v = .int .i64 17 ∧ Γ = [blk pm [.pointer (some ⟨ps, 0, none⟩), .int .i64 400, .pointer (some ⟨pl, 0, none⟩)] 103]) := by
 intro z R w H'; have H : Sep z (blk pm [.pointer (some ⟨ps, 0, none⟩), .int .i64 400, .pointer (some ⟨pl, 0, none⟩)] 103 :: R) w := H'
 clear H'; refine enter Tryz.func15 rfl 43 Tryz.ntmps15 rfl (k_seq (s_region (s_M 1 rfl rfl (s_end (k_seq (k_seq (s_region (s_L 4 [2, 0] (mm1 (H.blk 0 rfl) mm0) rfl (by kernel_rfl) rfl (s_do rfl rfl rfl (d_neq_pn rfl (by kernel_rfl) rfl rfl) (s_end (k_true rfl (k_seq (s_region ?_))))))))))))); refine s_M 1 rfl rfl (s_end (k_ret (doneL rfl [.int .i64 17] ⟨rfl, trivial⟩ (v := .int .i64 17) rfl ?_))); exact ⟨[blk pm [.pointer (some ⟨ps, 0, none⟩), .int .i64 400, .pointer (some ⟨pl, 0, none⟩)] 103], ⟨rfl, rfl⟩, H⟩
set_option maxHeartbeats 2000000 in
theorem ask0_c (pm ps pd : Nat) (D : Dsk) (G : StG) (hb : G.x.gen ≤ 2000000000 ∧ G.x.epoch ≤ 2000000000) (s l : Int) : Cn Tryz.prog 15 [.pointer (some ⟨pm, 0, none⟩), .int .i64 s, .int .i64 l] [blk pm [.pointer (some ⟨ps, 0, none⟩), .int .i64 400, .pointer none] 103, stoA ps pd D G none] (fun v Γ => (¬ (swS G.x s l).Ok 400 ∧ v = .int .i64 1 ∧ Γ = [blk pm [.pointer (some ⟨ps, 0, none⟩), .int .i64 400, .pointer none] 103, stoA ps pd D G none]) ∨ ((swS G.x s l).Ok 400 ∧ ∃ pl, v = .int .i64 0 ∧ Γ = [blk pm [.pointer (some ⟨ps, 0, none⟩), .int .i64 400, .pointer (some ⟨pl, 0, none⟩)] 103, blk pl [.int .i64 s, .int .i64 l] 110, stoA ps pd D G none])) := by
 intro z R w H'; have H : Sep z (blk pm [.pointer (some ⟨ps, 0, none⟩), .int .i64 400, .pointer none] 103 :: stoA ps pd D G none :: R) w := H'
 clear H'; have hxg := Sup.get (H.says 1 rfl (fun h q => (stoA.inv q).ok))
 refine enter Tryz.func15 rfl 43 Tryz.ntmps15 rfl (k_seq (s_region (s_M 1 rfl rfl (s_end (k_seq (k_seq (s_region (s_L 4 [2, 0] (mm1 (H.blk 0 rfl) mm0) rfl (by kernel_rfl) rfl (s_do rfl rfl rfl (d_neq_nn rfl (by kernel_rfl) rfl rfl) (s_end (k_false rfl (k_skip (k_seq ?_))))))))))))); refine s_region (s_L 4 [0, 0] (mm1 (H.blk 0 rfl) mm0) rfl (by kernel_rfl) rfl (s_C rfl rfl rfl rfl rfl (fun w => Tryz.call13 _ w) (super_s ps pd D G none) H.f1 rfl ?_)); rintro _ w _ ⟨rfl, rfl⟩ H'; have H := H'.l2; clear H'; refine s_go rfl rfl rfl (n_alloc (P := Tryz.prog) H rfl (zs := [.int .i64 0, .int .i64 0, .int .i64 0, .int .i64 0, .int .i64 0, .int .i64 0, .int .i64 0]) (by kernel_rfl)) ?_; rintro _ w ⟨b1, rfl, H'⟩; have H := H'.l3; clear H'; refine s_put rfl rfl (n_store 0 H rfl rfl rfl rfl (vs := [.int .i64 G.x.gen, .int .i64 G.x.epoch, .int .i64 G.x.pages, .int .i64 G.x.start, .int .i64 G.x.len, .int .i64 G.x.head, .int .i64 G.x.seq]) rfl (by simp [u8, u32, Value.oneCell']) (by kernel_rfl) (by simp) (out := [.int .i64 G.x.gen, .int .i64 G.x.epoch, .int .i64 G.x.pages, .int .i64 G.x.start, .int .i64 G.x.len, .int .i64 G.x.head, .int .i64 G.x.seq]) rfl) ?_; rintro w H'; have H := H'.l3; clear H'; refine s_end (k_seq (s_region (s_L 2 [0, 0] (mm1 (H.blk 0 rfl) mm0) rfl (by kernel_rfl) rfl (s_do rfl rfl rfl (d_add64 rfl rfl rfl (r := G.x.gen + 1) (by omega) (by omega)) (s_L 2 [1, 0] (mm1 (H.blk 0 rfl) mm0) rfl (by kernel_rfl) rfl (s_do rfl rfl rfl (d_add64 rfl rfl rfl (r := G.x.epoch + 1) (by omega) (by omega)) (s_L 4 [2, 0] (mm1 (H.blk 0 rfl) mm0) rfl (by kernel_rfl) rfl (s_do rfl rfl rfl (d_build rfl rfl (out := [.int .i64 (G.x.gen + 1), .int .i64 (G.x.epoch + 1), .int .i64 G.x.pages, .int .i64 s, .int .i64 l, .int .i64 0, .int .i64 1]) (by kernel_rfl)) (s_put rfl rfl (n_store 0 H rfl rfl rfl rfl (vs := [.int .i64 (G.x.gen + 1), .int .i64 (G.x.epoch + 1), .int .i64 G.x.pages, .int .i64 s, .int .i64 l, .int .i64 0, .int .i64 1]) rfl (by simp [u8, u32, Value.oneCell']) (by kernel_rfl) (by simp) (out := [.int .i64 (G.x.gen + 1), .int .i64 (G.x.epoch + 1), .int .i64 G.x.pages, .int .i64 s, .int .i64 l, .int .i64 0, .int .i64 1]) rfl) ?_)))))))))
 rintro w H'; have H := H'.l3; clear H'; refine s_end (k_seq (k_seq (q_region (Sep z _) (by kernel_rfl) (by kernel_rfl) H.drew (q_do rfl rfl rfl (d_loadAgg rfl rfl (vs := [.int .i64 (G.x.gen + 1), .int .i64 (G.x.epoch + 1), .int .i64 G.x.pages, .int .i64 s, .int .i64 l, .int .i64 0, .int .i64 1]) (by kernel_rfl) (fun _ hx => (hx.blk 0 rfl).part 0 7 _ rfl)) (q_do rfl rfl rfl (d_move rfl rfl) (q_do rfl rfl rfl (d_nilCheck rfl rfl) (q_do rfl rfl rfl (d_field rfl (k := 1) (r := 1) (by kernel_rfl) rfl rfl) (q_do rfl rfl rfl (d_load rfl rfl (by kernel_rfl) (fun _ hx => hx.cel 2 rfl 1 rfl)) (q_call rfl rfl rfl rfl rfl (fun w => Tryz.call50 _ w) (v := .int .i64 (if (Sup.mk (G.x.gen + 1) (G.x.epoch + 1) G.x.pages s l 0 1).Ok 400 then 0 else 1)) (cq (check_c (Sup.mk (G.x.gen + 1) (G.x.epoch + 1) G.x.pages s l 0 1) _ (by omega)) (by rintro _ _ ⟨rfl, rfl⟩; exact ⟨rfl, rfl⟩) 0 [] [] rfl rfl rfl rfl) (q_do rfl rfl rfl (d_neq rfl rfl rfl) (q_end (fun w H' => ?_)))))))))))); have H := H'.l3; clear H'; refine k_dec rfl (fun h1 => ?_) (fun h1 => ?_)
 ·refine k_seq (s_region (s_M 1 rfl rfl (s_end (k_ret (doneL rfl [.int .i64 1] ⟨rfl, trivial⟩ (v := .int .i64 1) rfl ?_))))); exact ⟨[blk pm [.pointer (some ⟨ps, 0, none⟩), .int .i64 400, .pointer none] 103, stoA ps pd D G none], .inl ⟨fun hk => absurd (if_pos hk) h1, rfl, rfl⟩, H.perm 3 [2, 1] rfl rfl⟩
 ·refine k_skip (k_seq (s_region (s_M 3 rfl rfl (s_do rfl rfl rfl (d_build rfl rfl (out := [.int .i64 s, .int .i64 l]) (by kernel_rfl)) (s_go rfl rfl rfl (n_box H rfl rfl (cs := [.int .i64 s, .int .i64 l]) rfl) ?_))))); rintro _ w ⟨b2, rfl, H'⟩; have H := H'.l4; clear H'; refine s_Q 2 [2] rfl (by kernel_rfl) (s_put rfl rfl (n_store 3 H rfl rfl rfl rfl (vs := [.pointer (some ⟨b2, 0, none⟩)]) rfl (by simp [u8, u32, Value.oneCell']) (by kernel_rfl) (by simp) (out := [.pointer (some ⟨ps, 0, none⟩), .int .i64 400, .pointer (some ⟨b2, 0, none⟩)]) rfl) ?_); rintro w H'; have H := H'.l4; clear H'; refine s_end (k_seq (s_region (s_M 1 rfl rfl (s_end (k_ret (doneL rfl [.int .i64 0] ⟨rfl, trivial⟩ (v := .int .i64 0) rfl ?_)))))); exact ⟨[blk pm [.pointer (some ⟨ps, 0, none⟩), .int .i64 400, .pointer (some ⟨b2, 0, none⟩)] 103, blk b2 [.int .i64 s, .int .i64 l] 110, stoA ps pd D G none], .inr ⟨Decidable.byContradiction fun g_ => h1 (fun e => absurd ((if_neg g_).symm.trans e) (by decide)), _, rfl, rfl⟩, H.perm 4 [3, 0, 2] rfl rfl⟩
end Go.Proofs.YtbegkbjigbkljaaGreatDoor
namespace Go.Proofs.YtbegkbjigbkljaaGreatDoor
open Go.RowKit
def fillG (xs : List Value) (y : Value) (j : Nat) : List Value := List.replicate j y ++ xs.drop j
theorem fillG_len {xs : List Value} (y : Value) {j : Nat} (h : j ≤ xs.length) : (fillG xs y j).length = xs.length := by simp [fillG]; omega
theorem fillG_step {xs : List Value} {y : Value} {j : Nat} (h : j < xs.length) : (fillG xs y j).take j ++ [y] ++ (fillG xs y j).drop (j + 1) = fillG xs y (j + 1) := by
  unfold fillG
  rw [List.take_append_of_le_length (by simp), List.take_of_length_le (by simp), List.drop_append, List.drop_of_length_le (by simp), List.nil_append, List.length_replicate, List.drop_drop, List.replicate_succ', show j + 1 - j = 1 from by omega]
variable {z w : World} in
theorem dirty_w (ps pd : Nat) (D : Dsk) (G : StG) (txn : Txn) : Cn Tryz.prog 51 [.pointer (some ⟨ps, 0, none⟩)] [stoA ps pd D G txn] (fun v Γ => (G.home ∧ ∃ ao c, v = .slice ao 0 c ∧ Γ = [stoA ps pd D G txn]) ∨ (¬ G.home ∧ ∃ (ks : List Int) (g cap : Nat) (rest : List Value), 0 < ks.length ∧ ks.length ≤ cap ∧ cap ≤ 9223372036854775807 ∧ v = .slice (some ⟨g, 0, none⟩) ks.length cap ∧ Γ = [blk g (ks.map (Value.int .i64) ++ rest) 3, stoA ps pd D G txn])) := by
  intro z R w H
  refine Ret.mono (dirty_s ps pd D G txn z R w H) ?_
  rintro v w' ⟨Γ', ⟨ks, hks, rfl⟩, H'⟩
  rcases Nat.eq_zero_or_pos ks.length with e | e
  · obtain ⟨ao, c, hv⟩ := H'.says 0 rfl (fun h q => q.slc)
    rw [e] at hv
    have e2 : ks = [] := List.length_eq_zero_iff.1 e
    subst e2
    refine ⟨_, .inl ⟨fun n => ?_, ao, c, hv, rfl⟩, H'.pick 2 [1] rfl⟩
    cases ho : ov G.rs n with
    | none => rfl
    | some p =>
      have := (hks.2 (n : Int)).2 ⟨by omega, by rw [Int.toNat_natCast, ho]; rfl⟩
      cases this
  · obtain ⟨g, cap, rest, hv, h1, h0, _, H2⟩ := H'.ungrow 0 rfl e
    refine ⟨_, .inr ⟨fun hh => ?_, ks, g, cap, rest, e, h1, h0, hv, rfl⟩, H2⟩
    obtain ⟨k, hk⟩ : ∃ k, k ∈ ks := ⟨ks[0], List.getElem_mem e⟩
    have h2 := ((hks.2 k).1 hk).2
    rw [hh] at h2
    cases h2
theorem step0_c (pm ps : Nat) : Cn Tryz.prog 16 [.pointer (some ⟨pm, 0, none⟩)] [blk pm [.pointer (some ⟨ps, 0, none⟩), .int .i64 400, .pointer none] 103] (fun v Γ => v = .tuple #[.bool false, .int .i64 18] ∧ Γ = [blk pm [.pointer (some ⟨ps, 0, none⟩), .int .i64 400, .pointer none] 103]) := by
 intro z R w H'; have H : Sep z (blk pm [.pointer (some ⟨ps, 0, none⟩), .int .i64 400, .pointer none] 103 :: R) w := H'
 clear H'; refine enter Tryz.func16 rfl 49 Tryz.ntmps16 rfl (k_seq (s_region (s_M 2 rfl rfl (s_end (k_seq (k_seq (s_region (s_L 4 [2, 0] (mm1 (H.blk 0 rfl) mm0) rfl (by kernel_rfl) rfl (s_do rfl rfl rfl (d_eql_nn rfl (by kernel_rfl) rfl rfl) (s_end (k_true rfl (k_seq (s_region ?_))))))))))))); refine s_M 2 rfl rfl (s_end (k_ret (doneL rfl [.bool false, .int .i64 18] ⟨rfl, ⟨rfl, trivial⟩⟩ (v := .tuple #[.bool false, .int .i64 18]) rfl ?_))); exact ⟨[blk pm [.pointer (some ⟨ps, 0, none⟩), .int .i64 400, .pointer none] 103], ⟨rfl, rfl⟩, H⟩
set_option maxHeartbeats 2000000 in
theorem step1_c (pm ps pd pl : Nat) (s l : Int) (D : Dsk) (G : StG) (m : Nat) (hF : Bnd D G m) (hm : m ≤ 1000000000) : Cn Tryz.prog 16 [.pointer (some ⟨pm, 0, none⟩)] [blk pm [.pointer (some ⟨ps, 0, none⟩), .int .i64 400, .pointer (some ⟨pl, 0, none⟩)] 103, blk pl [.int .i64 s, .int .i64 l] 110, stoA ps pd D G none] (fun v Γ => (¬ G.home ∧ ∃ (c : Int) (D2 : Dsk) (G2 : StG), Bnd D2 G2 (m + 1) ∧ Mv D G D2 G2 ∧ (G2.x.start = G.x.start ∧ G2.x.len = G.x.len) ∧ (Clean D ∧ G.b = false → c = 0 ∧ (Clean D2 ∧ G2.b = false) ∧ G2.home) ∧ v = .tuple #[.bool false, .int .i64 c] ∧ Γ = [blk pm [.pointer (some ⟨ps, 0, none⟩), .int .i64 400, .pointer (some ⟨pl, 0, none⟩)] 103, blk pl [.int .i64 s, .int .i64 l] 110, stoA ps pd D2 G2 none]) ∨ (G.home ∧ ∃ (c : Int) (D2 : Dsk), c ≠ 0 ∧ Bnd D2 G (m + 1) ∧ Mv D G D2 G ∧ (Clean D → (swS G.x s l).Ok (D.n : Int) → False) ∧ v = .tuple #[.bool false, .int .i64 c] ∧ Γ = [blk pm [.pointer (some ⟨ps, 0, none⟩), .int .i64 400, .pointer (some ⟨pl, 0, none⟩)] 103, blk pl [.int .i64 s, .int .i64 l] 110, stoA ps pd D2 G none]) ∨ (G.home ∧ ∃ D2 : Dsk, Bnd D2 (swG G s l) (m + 1) ∧ Mv D G D2 (swG G s l) ∧ (Clean D → Clean D2) ∧ v = .tuple #[.bool true, .int .i64 0] ∧ Γ = [blk pm [.pointer (some ⟨ps, 0, none⟩), .int .i64 400, .pointer none] 103, blk pl [.int .i64 s, .int .i64 l] 110, stoA ps pd D2 (swG G s l) none])) := by
 intro z R w H'; have H : Sep z (blk pm [.pointer (some ⟨ps, 0, none⟩), .int .i64 400, .pointer (some ⟨pl, 0, none⟩)] 103 :: blk pl [.int .i64 s, .int .i64 l] 110 :: stoA ps pd D G none :: R) w := H'
 clear H'; refine enter Tryz.func16 rfl 49 Tryz.ntmps16 rfl (k_seq (s_region (s_M 2 rfl rfl (s_end (k_seq (k_seq (s_region (s_L 4 [2, 0] (mm1 (H.blk 0 rfl) mm0) rfl (by kernel_rfl) rfl (s_do rfl rfl rfl (d_eql_pn rfl (by kernel_rfl) rfl rfl) (s_end (k_false rfl (k_skip (k_seq ?_))))))))))))); refine k_seq (s_region (s_L 4 [0, 0] (mm1 (H.blk 0 rfl) mm0) rfl (by kernel_rfl) rfl (s_C rfl rfl rfl rfl rfl (fun w => Tryz.call51 _ w) (dirty_w _ _ _ _ _) H.f2 rfl ?_))); rintro _ w _ (⟨hh6, ao6, c6, rfl, rfl⟩ | ⟨hh6, ks, g6, cap6, rest6, hk6, hkc6, hkx6, rfl, rfl⟩) H'
 ·have H := H'.l3; clear H'; refine s_do rfl rfl rfl (d_len rfl (z := 1) (by kernel_rfl) rfl) (s_M 1 rfl rfl (k_updA 16 (u := .bool (decide ((0 : Int) < 0))) (v := .bool false) rfl (congrArg Value.bool (by decide)) (s_end (k_false rfl (k_skip (k_seq (t_region 18 (by kernel_rfl) (by kernel_rfl) (fun w' x' _ => ?_)))))))); have H' := H.ext0 x'; clear x' H; revert H'; generalize w' = w; intro H'
  have H := H'.l3; clear H'; refine t_do rfl rfl rfl (d_move rfl rfl) (t_do rfl rfl rfl (d_nilCheck rfl rfl) (t_do rfl rfl rfl (d_field rfl (k := 0) (r := 0) (by kernel_rfl) rfl rfl) (t_do rfl rfl rfl (d_load rfl rfl (by kernel_rfl) (here (H.cel 1 rfl 0 rfl))) (t_do rfl rfl rfl (d_move rfl rfl) (t_do rfl rfl rfl (d_nilCheck rfl rfl) (t_do rfl rfl rfl (d_field rfl (k := 2) (r := 2) (by kernel_rfl) rfl rfl) (t_do rfl rfl rfl (d_load rfl rfl (by kernel_rfl) (here (H.cel 1 rfl 2 rfl))) (t_do rfl rfl rfl (d_nilCheck rfl rfl) (t_do rfl rfl rfl (d_field rfl (k := 0) (r := 0) (by kernel_rfl) rfl rfl) (t_do rfl rfl rfl (d_load rfl rfl (by kernel_rfl) (here (H.cel 2 rfl 0 rfl))) (t_do rfl rfl rfl (d_move rfl rfl) (t_do rfl rfl rfl (d_nilCheck rfl rfl) (t_do rfl rfl rfl (d_field rfl (k := 2) (r := 2) (by kernel_rfl) rfl rfl) ?_))))))))))))); refine t_do rfl rfl rfl (d_load rfl rfl (by kernel_rfl) (here (H.cel 1 rfl 2 rfl))) (t_do rfl rfl rfl (d_nilCheck rfl rfl) (t_do rfl rfl rfl (d_field rfl (k := 1) (r := 1) (by kernel_rfl) rfl rfl) (t_do rfl rfl rfl (d_load rfl rfl (by kernel_rfl) (here (H.cel 2 rfl 1 rfl))) (t_end (s_C rfl rfl rfl rfl rfl (fun w => Tryz.call53 _ w) (switch_g _ _ _ _ m hF (by omega) s l hh6) H rfl ?_))))); rintro _ w _ (⟨c_, D2, hc0, hB2, hMv, hfin, rfl, rfl⟩ | ⟨D2, hB2, hMv, hfin, rfl, rfl⟩) H'
  ·have H := H'.l3; clear H'; refine s_M 1 rfl rfl (s_end (k_seq (k_seq (s_region (s_M 2 rfl rfl (s_end (k_dec rfl (fun h1 => ?_) (fun h1 => ?_))))))))
   ·exact absurd h1 hc0
   ·refine k_skip (k_seq (s_region (s_M 2 rfl rfl (k_updA 47 (u := .bool (decide ((c_ : Int) = 0))) (v := .bool false) rfl (congrArg Value.bool (decide_eq_false hc0)) (s_M 3 rfl rfl (s_end (k_ret (doneL rfl [.bool false, .int .i64 c_] ⟨rfl, ⟨rfl, trivial⟩⟩ (v := .tuple #[.bool false, .int .i64 c_]) rfl ?_)))))))); exact ⟨[blk pm [.pointer (some ⟨ps, 0, none⟩), .int .i64 400, .pointer (some ⟨pl, 0, none⟩)] 103, blk pl [.int .i64 s, .int .i64 l] 110, stoA ps pd D2 G none], .inr (.inl ⟨hh6, _, _, hc0, hB2, hMv, hfin, rfl, rfl⟩), H.perm 3 [1, 2, 0] rfl rfl⟩
  ·have H := H'.l3; clear H'; refine s_M 1 rfl rfl (s_end (k_seq (k_seq (s_region (s_M 2 rfl rfl (k_updA 42 (u := .bool (decide ((0 : Int) = 0))) (v := .bool true) rfl (congrArg Value.bool (by decide)) (s_end (k_true rfl (s_region (s_Q 3 [2] rfl (by kernel_rfl) (s_put rfl rfl (n_store 1 H rfl rfl rfl rfl (vs := [.pointer none]) rfl (by simp [u8, u32, Value.oneCell']) (by kernel_rfl) (by simp) (out := [.pointer (some ⟨ps, 0, none⟩), .int .i64 400, .pointer none]) rfl) ?_))))))))))); rintro w H'; have H := H'.l3; clear H'; refine s_end (k_seq (s_region (s_M 2 rfl rfl (k_updA 47 (u := .bool (decide ((0 : Int) = 0))) (v := .bool true) rfl (congrArg Value.bool (by decide)) (s_M 3 rfl rfl (s_end (k_ret (doneL rfl [.bool true, .int .i64 0] ⟨rfl, ⟨rfl, trivial⟩⟩ (v := .tuple #[.bool true, .int .i64 0]) rfl ?_)))))))); exact ⟨[blk pm [.pointer (some ⟨ps, 0, none⟩), .int .i64 400, .pointer none] 103, blk pl [.int .i64 s, .int .i64 l] 110, stoA ps pd D2 (swG G s l) none], .inr (.inr ⟨hh6, _, hB2, hMv, hfin, rfl, rfl⟩), H.perm 3 [1, 2, 0] rfl rfl⟩
 ·have H := H'.l4; clear H'; refine s_do rfl rfl rfl (d_len rfl (z := 1) (by kernel_rfl) rfl) (s_M 1 rfl rfl (s_end (k_dec rfl (fun h2 => ?_) (fun h2 => ?_))))
  ·refine k_seq (s_region (s_L 4 [0, 0] (mm1 (H.blk 2 rfl) mm0) rfl (by kernel_rfl) rfl (s_C rfl rfl rfl rfl rfl (fun w => Tryz.call52 _ w) (check_g _ _ _ _ m hF (by omega)) H.f1 rfl ?_))); rintro _ w _ ⟨c_, D2, G2, hB2, hMv, hsl, hfin, rfl, rfl⟩ H'; have H := H'.l4; clear H'; refine s_M 2 rfl rfl (s_end (k_ret (doneL rfl [.bool false, .int .i64 c_] ⟨rfl, ⟨rfl, trivial⟩⟩ (v := .tuple #[.bool false, .int .i64 c_]) rfl ?_))); exact ⟨[blk pm [.pointer (some ⟨ps, 0, none⟩), .int .i64 400, .pointer (some ⟨pl, 0, none⟩)] 103, blk pl [.int .i64 s, .int .i64 l] 110, stoA ps pd D2 G2 none], .inl ⟨hh6, _, _, _, hB2, hMv, hsl, hfin, rfl, rfl⟩, H.perm 4 [2, 3, 0] rfl rfl⟩
  ·(exfalso; omega)
end Go.Proofs.YtbegkbjigbkljaaGreatDoor
namespace Go.Proofs.YtbegkbjigbkljaaGreatDoor
open Go.RowKit
def Ins (s : Sup) (D D' : Dsk) : Prop := D'.n = D.n ∧ (∀ i : Nat, ¬ (s.start ≤ (i : Int) ∧ (i : Int) < s.start + s.len) → D'.ver i = D.ver i) ∧ ∀ i, (D'.ver i).length ≤ (D.ver i).length + 2
theorem wr_out (D : Dsk) (x : Nat) (ps : List (List UInt8)) (j : Nat) (h : j < x ∨ x + ps.length ≤ j) : (D.wr x ps).ver j = D.ver j := Dsk.ws_ver false ps { D with f2 := tick D.f2 } x j h
theorem Ins.refl (s : Sup) (D : Dsk) : Ins s D D := ⟨rfl, fun _ _ => rfl, fun _ => by omega⟩
theorem Ins.one {s : Sup} {D : Dsk} {x : Nat} {ps : List (List UInt8)} (h1 : s.start ≤ x) (h2 : (x : Int) + ps.length ≤ s.start + s.len) : Ins s D (D.wr x ps) :=
  ⟨Dsk.wr_n _ _ _, fun i hi => wr_out _ _ _ _ (by omega), fun i => by have := Dsk.wr_len D x ps i; omega⟩
theorem Ins.two {s : Sup} {D : Dsk} {x y : Nat} {ps qs : List (List UInt8)} (h1 : s.start ≤ x) (h2 : (x : Int) + ps.length ≤ s.start + s.len) (h3 : s.start ≤ y) (h4 : (y : Int) + qs.length ≤ s.start + s.len) : Ins s D ((D.wr x ps).wr y qs) :=
  ⟨by rw [Dsk.wr_n, Dsk.wr_n], fun i hi => by rw [wr_out _ _ _ _ (by omega), wr_out _ _ _ _ (by omega)], fun i => by have := Dsk.wr_len D x ps i; have := Dsk.wr_len (D.wr x ps) y qs i; omega⟩
end Go.Proofs.YtbegkbjigbkljaaGreatDoor
namespace Go.Proofs.YtbegkbjigbkljaaGreatDoor
open Go.RowKit
theorem blk_rd0 {b : Nat} {xs : List Value} {ty : TypeId} {h : Hp} (a : blk b xs ty h) (hx : xs.length = 240) : rdH 1 (.slice (some ⟨b, 0, none⟩) 240 240) 240 xs h := a.rd (by omega) (by omega) (by omega) (by simp; exact List.take_of_length_le (by omega))
def pgF (kd fl : Int) : Pg := ⟨kd, List.replicate 240 (byt fl)⟩
theorem pgF_ok {kd : Int} (fl : Int) (h : 1 ≤ kd ∧ kd ≤ 5) : (pgF kd fl).Ok := ⟨h, by simp [pgF]⟩
theorem pgF_len (kd fl : Int) : (pgF kd fl).body.length = 240 := by simp [pgF]
theorem fill_step (i : Nat) (x y : UInt8) (hi : i < 240) : ((List.replicate i x ++ List.replicate (240 - i) y).map u8).take i ++ [u8 x] ++ ((List.replicate i x ++ List.replicate (240 - i) y).map u8).drop (i + 1) = (List.replicate (i + 1) x ++ List.replicate (240 - (i + 1)) y).map u8 := by
  rw [List.map_append, List.take_append_of_le_length (by simp), List.take_of_length_le (by simp), List.drop_append, List.drop_of_length_le (by simp), List.nil_append]
  simp only [List.map_replicate, List.length_replicate, List.drop_replicate]
  rw [show 240 - i - (i + 1 - i) = 240 - (i + 1) from by omega, List.map_append, List.map_replicate, List.map_replicate, List.replicate_succ', List.append_assoc]
theorem fm_ok {n : Nat} {p s l : Int} (h : 16 ≤ p ∧ p ≤ 1024) (h1 : 2 + p ≤ s) (h2 : 64 ≤ l) (h3 : s + l ≤ n) (h4 : n ≤ 4096) : (fmS p s l 2).Ok (n : Int) :=
  Sup.ok_mk (by show 0 ≤ (2 : Int) ∧ (2 : Int) ≤ 1099511627776; omega) (by show 0 ≤ (1 : Int) ∧ (1 : Int) ≤ 1099511627776; omega) (by show 16 ≤ p ∧ p ≤ 1024; omega) (by show 2 + p ≤ s ∧ s ≤ 1099511627776; omega) (by show 64 ≤ l ∧ l ≤ 1099511627776; omega) (by show 0 ≤ (0 : Int) ∧ (0 : Int) < l; omega) (by show 0 ≤ (1 : Int) ∧ (1 : Int) ≤ 1099511627776; omega) (by show s ≤ n - l ∧ l ≤ n; omega)
def g07 : StG := opG (fmS 16 18 64 2) (fun _ => noPg)
theorem sw_ok {x : Sup} {s l : Int} (n : Int) (hg : (0 ≤ x.gen ∧ x.gen ≤ 2000000000) ∧ 0 ≤ x.epoch ∧ x.epoch ≤ 2000000000) (hp : x.pages = 16) (h : 18 ≤ s ∧ 64 ≤ l ∧ s ≤ n - l ∧ l ≤ n) (hn : n ≤ 4096) : (swS x s l).Ok n := by
  have hf := swS_f x s l
  exact Sup.ok_mk (by omega) (by omega) (by omega) (by omega) (by omega) (by omega) (by omega) (by omega)
theorem sw_inv {x : Sup} {s l n : Int} (h : (swS x s l).Ok n) (hp : x.pages = 16) : 18 ≤ s ∧ 64 ≤ l ∧ s ≤ n - l ∧ l ≤ n := by
  have hf := swS_f x s l
  have := h.2
  omega
theorem stoA.gen0 {ps pd : Nat} {D : Dsk} {G : StG} {own : Txn} {h : Hp} (a : stoA ps pd D G own h) : 0 ≤ G.x.gen ∧ 0 ≤ G.x.epoch := by
  have := Sup.get (stoA.inv a).ok
  omega
abbrev mvB (pm ps pl : Nat) : Asn := blk pm [.pointer (some ⟨ps, 0, none⟩), .int .i64 400, .pointer (some ⟨pl, 0, none⟩)] 103
abbrev plB (pl : Nat) (e : Int × Int) : Asn := blk pl [.int .i64 e.1, .int .i64 e.2] 110
def moA (pm ps : Nat) (t : Option (Int × Int)) : Asn := fun h => match t with
  | none => blk pm [.pointer (some ⟨ps, 0, none⟩), .int .i64 400, .pointer none] 103 h
  | some e => ∃ pl, seps [mvB pm ps pl, plB pl e] h
section
variable {z w : World} {Γ : List Asn} {pm ps pd : Nat} {D : Dsk} {G : StG}
theorem Sep.mo {e : Int × Int} (H : Sep z (moA pm ps (some e) :: Γ) w) : ∃ pl, Sep z (mvB pm ps pl :: plB pl e :: Γ) w := by
  obtain ⟨pl, _, H⟩ := H.into (p := fun _ => True) (As := fun pl => [mvB pm ps pl, plB pl e]) (fun h a => by obtain ⟨pl, a⟩ := a; exact ⟨pl, trivial, a⟩)
  exact ⟨pl, H⟩
theorem Sep.toMo {e : Int × Int} {pl : Nat} (H : Sep z (mvB pm ps pl :: plB pl e :: Γ) w) : Sep z (moA pm ps (some e) :: Γ) w := H.made 2 (fun h a => ⟨pl, a⟩)
end
theorem new_m (ps : Nat) : Cn Tryz.prog 11 [.pointer (some ⟨ps, 0, none⟩), .int .i64 400] [] (fun v Γ => ∃ pm, v = .pointer (some ⟨pm, 0, none⟩) ∧ Γ = [moA pm ps none]) := rnew_c ps
theorem ask_m (pm ps pd : Nat) (t : Option (Int × Int)) (D : Dsk) (G : StG) (m : Nat) (hF : Bnd D G m) (hm : m ≤ 1000000000) (s l : Int) : Cn Tryz.prog 15 [.pointer (some ⟨pm, 0, none⟩), .int .i64 s, .int .i64 l] [moA pm ps t, stoA ps pd D G none] (fun v Γ => (∃ c : Int, c ≠ 0 ∧ v = .int .i64 c ∧ Γ = [moA pm ps t, stoA ps pd D G none]) ∨ ((swS G.x s l).Ok 400 ∧ v = .int .i64 0 ∧ Γ = [moA pm ps (some (s, l)), stoA ps pd D G none])) := by
  intro z R w H
  have h1 := hF.gen
  have h2 := hF.epoch
  cases t with
  | none =>
    refine Ret.mono (ask0_c pm ps pd D G (by omega) s l z R w H) ?_
    rintro v w' ⟨Γ', (⟨_, rfl, rfl⟩ | ⟨h, pl, rfl, rfl⟩), H'⟩
    · exact ⟨_, .inl ⟨1, by decide, rfl, rfl⟩, H'⟩
    · exact ⟨_, .inr ⟨h, rfl, rfl⟩, H'.toMo⟩
  | some e =>
    obtain ⟨pl, H⟩ := H.mo
    refine Ret.mono (Cn.at (ask1_c pm ps pl s l) H 1 [0] rfl rfl) ?_
    rintro v w' ⟨Γ', ⟨rfl, rfl⟩, H'⟩
    exact ⟨_, .inl ⟨17, by decide, rfl, rfl⟩, H'.toMo⟩
theorem busy_m (pm ps : Nat) (t : Option (Int × Int)) : Cn Tryz.prog 14 [.pointer (some ⟨pm, 0, none⟩)] [moA pm ps t] (fun v Γ => v = .bool t.isSome ∧ Γ = [moA pm ps t]) := by
  intro z R w H
  cases t with
  | none => exact busy0_c pm ps z R w H
  | some e =>
    obtain ⟨pl, H⟩ := H.mo
    refine Ret.mono (Cn.at (busy1_c pm ps pl) H 1 [0] rfl rfl) ?_
    rintro v w' ⟨Γ', ⟨rfl, rfl⟩, H'⟩
    exact ⟨_, ⟨rfl, rfl⟩, H'.toMo⟩
theorem cancel_m (pm ps : Nat) (t : Option (Int × Int)) : Cn Tryz.prog 17 [.pointer (some ⟨pm, 0, none⟩)] [moA pm ps t] (fun v Γ => v = .tuple #[] ∧ Γ = [moA pm ps none]) := by
  intro z R w H
  cases t with
  | none => exact cancel0_c pm ps z R w H
  | some e =>
    obtain ⟨pl, H⟩ := H.mo
    refine Ret.mono (Cn.at (cancel1_c pm ps pl) H 1 [0] rfl rfl) ?_
    rintro v w' ⟨Γ', ⟨rfl, rfl⟩, H'⟩
    exact ⟨_, ⟨rfl, rfl⟩, H'.pick 2 [0] rfl⟩
theorem step_f (pm ps pd : Nat) (t : Option (Int × Int)) (D : Dsk) (G : StG) (m : Nat) (hF : Fine D G m) (hm : m ≤ 1000000000) (hok : ∀ s l, t = some (s, l) → (swS G.x s l).Ok (D.n : Int)) : Cn Tryz.prog 16 [.pointer (some ⟨pm, 0, none⟩)] [moA pm ps t, stoA ps pd D G none] (fun v Γ => (t = none ∧ v = .tuple #[.bool false, .int .i64 18] ∧ Γ = [moA pm ps t, stoA ps pd D G none]) ∨ (t.isSome = true ∧ ¬ G.home ∧ ∃ (D2 : Dsk) (G2 : StG), Fine D2 G2 (m + 1) ∧ Mv D G D2 G2 ∧ G2.home ∧ (G2.x.start = G.x.start ∧ G2.x.len = G.x.len) ∧ v = .tuple #[.bool false, .int .i64 0] ∧ Γ = [moA pm ps t, stoA ps pd D2 G2 none]) ∨ (t.isSome = true ∧ G.home ∧ ∃ (D2 : Dsk) (G2 : StG), Fine D2 G2 (m + 1) ∧ Mv D G D2 G2 ∧ t = some (G2.x.start, G2.x.len) ∧ v = .tuple #[.bool true, .int .i64 0] ∧ Γ = [moA pm ps none, stoA ps pd D2 G2 none])) := by
  intro z R w H
  cases t with
  | none =>
    refine Ret.mono (Cn.at (step0_c pm ps) H 1 [0] rfl rfl) ?_
    rintro v w' ⟨Γ', ⟨rfl, rfl⟩, H'⟩
    exact ⟨_, .inl ⟨rfl, rfl, rfl⟩, H'⟩
  | some e =>
    obtain ⟨pl, H⟩ := H.mo
    refine Ret.mono (step1_c pm ps pd pl e.1 e.2 D G m hF.bnd hm z R w H) ?_
    rintro v w' ⟨Γ', (⟨hh, c, D2, G2, hB, hM, hs, hfin, rfl, rfl⟩ | ⟨_, c, D2, _, hB, hM, hno, rfl, rfl⟩ | ⟨hh, D2, hB, hM, hcl, rfl, rfl⟩), H'⟩
    · obtain ⟨rfl, hc2, hh2⟩ := hfin ⟨hF.clean, hF.b⟩
      exact ⟨_, .inr (.inl ⟨rfl, hh, D2, G2, hB.fine hc2, hM, hh2, hs, rfl, rfl⟩), H'.toMo⟩
    · exact (hno hF.clean (hok _ _ rfl)).elim
    · exact ⟨_, .inr (.inr ⟨rfl, hh, D2, swG G e.1 e.2, hB.fine ⟨hcl hF.clean, rfl⟩, hM, rfl, rfl, rfl⟩), H'.pick 3 [0, 2] rfl⟩
theorem write_x (ps pd : Nat) (D : Dsk) (G : StG) (g : Pgs) (k : Nat) (hk : k < 40) (p : Int) (pg : Pg) (hp : pg.Ok) (bv : Value) (hbv : bv.oneCell' = true) (A : Asn) (hA : ∀ h, A h → rdH 1 bv 240 (pg.body.map u8) h) :
    Cn Tryz.prog 19 [.pointer (some ⟨ps, 0, none⟩), .int .i64 p, .agg #[.int .i64 pg.kind, bv]] [stoA ps pd D G (some (g, k)), A] (fun v Γ => ((p < 0 ∨ G.x.pages ≤ p) ∧ v = .int .i64 2 ∧ Γ = [stoA ps pd D G (some (g, k)), A]) ∨ (∃ n : Nat, p = (n : Int) ∧ (n : Int) < G.x.pages ∧ v = .int .i64 0 ∧ Γ = [stoA ps pd D G (some (pgSet g n pg, k + (if (g n).isSome then 0 else 1))), A])) := by
  intro z R w H
  by_cases h : p < 0 ∨ G.x.pages ≤ p
  · refine Ret.mono (Cn.at (write_r ps pd D G g k p h pg.kind bv hbv) H 1 [0] rfl rfl) ?_
    rintro v w' ⟨Γ', ⟨rfl, rfl⟩, H'⟩
    exact ⟨_, .inl ⟨h, rfl, rfl⟩, H'⟩
  · obtain ⟨n, rfl⟩ := Int.eq_ofNat_of_zero_le (show 0 ≤ p by omega)
    refine Ret.mono (write_s ps pd D G g k n (by omega) pg hp bv A hA z R w H) ?_
    rintro v w' ⟨Γ', (⟨hb, _⟩ | ⟨_, rfl, rfl⟩), H'⟩
    · have := hb.2; omega
    · exact ⟨_, .inr ⟨n, rfl, by omega, rfl, rfl⟩, H'⟩
theorem page7_c (fl : Int) : Cn Tryz.prog 20 [.int .i64 fl] [] (fun v Γ => ∃ b, v = .agg #[.int .i64 5, .slice (some ⟨b, 0, none⟩) 240 240] ∧ Γ = [blk b ((pgF 5 fl).body.map u8) 5]) := by
 intro z R w H'; have H : Sep z (R) w := H'
 clear H'; refine enter Tryz.func20 rfl 19 Tryz.ntmps20 rfl (k_seq (s_region (s_go rfl rfl rfl (n_alloc (P := Tryz.prog) H rfl (zs := [.int .i64 0, .slice none 0 0]) (by kernel_rfl)) ?_))); rintro _ w ⟨b1, rfl, H'⟩; have H := H'.l1; clear H'; refine s_end (k_seq (s_region (s_go rfl rfl rfl (n_make (k := 240) H rfl (by kernel_rfl) (Elt.mk (P := Tryz.prog) (e := 5) (z := u8 0) (sz := 1) (by_ := 1) (by kernel_rfl) rfl (by omega) (by omega)) rfl rfl rfl (by omega)) ?_))); rintro _ w ⟨b2, rfl, H'⟩; have H := H'.l2; clear H'; refine s_M 1 rfl rfl (s_end (k_seq (k_seq (s_region (s_M 1 rfl rfl (s_end (k_block ?_))))))); refine c_loop (σ := Nat) (fun i => [(4, .int .i64 (i : Int)), (0, .int .i64 fl), (2, .pointer (some ⟨b1, 0, none⟩)), (3, .slice (some ⟨b2, 0, none⟩) 240 240)])
   (fun i w => Sep z (blk b2 ((List.replicate i (byt fl) ++ List.replicate (240 - i) (0 : UInt8)).map u8) 5 :: blk b1 [.int .i64 0, .slice none 0 0] 65 :: R) w ∧ (i ≤ 240)) (fun i => 240 - i) 0
   (fun _ hF => (hF.cons (hF.cons (hF.cons (hF.cons hF.nil 3 _ _ rfl rfl) 2 _ _ rfl rfl) 0 _ _ rfl rfl) 4 _ _ rfl (by go_num))) ⟨(by simpa [u8] using H), by omega⟩ ?_
 clear H; rintro i w ⟨H', hI⟩; have H := H'.l2; clear H'; have hi := hI; clear hI
 refine k_seq (k_seq (s_region (s_M 2 rfl rfl (s_do rfl rfl rfl (d_len rfl (z := 1) (by kernel_rfl) rfl) (s_M 1 rfl rfl (s_end (k_dec rfl (fun h1 => ?_) (fun h1 => ?_))))))))
 ·refine k_skip (k_seq (k_block (s_region (s_M 3 rfl rfl (s_do rfl rfl rfl (d_to8 rfl (by kernel_rfl) rfl) (s_do rfl rfl rfl (d_index rfl (z := 1) (j := i) (r := i) (by kernel_rfl) rfl rfl rfl (by omega) (by omega)) (s_put rfl rfl (n_store 0 H rfl rfl rfl rfl (vs := [u8 (byt fl)]) rfl (by simp [u8, u32, Value.oneCell']) (by kernel_rfl) (by simp; omega) (out := ((List.replicate (i + 1) (byt fl) ++ List.replicate (240 - (i + 1)) (0 : UInt8)).map u8)) (fill_step i _ _ (by omega))) ?_))))))); rintro w H'; have H := H'.l2; clear H'; refine s_end (s_region (s_M 1 rfl rfl (s_do rfl rfl rfl (d_add64 rfl rfl rfl (r := (i : Int) + 1) (by omega) (by omega)) (s_M 1 rfl rfl (s_end ?_))))); intro _ hF; refine ⟨(i + 1), (hF.cons (hF.cons (hF.cons (hF.cons hF.nil 3 _ _ rfl rfl) 2 _ _ rfl rfl) 0 _ _ rfl rfl) 4 _ _ rfl (by go_num)), ⟨H, ?_⟩, ?_⟩
  ·omega
  ·omega
 ·obtain rfl : i = 240 := by omega
  refine k_exit (k_here (k_seq (s_region (s_M 1 rfl rfl (s_do rfl rfl rfl (d_build rfl rfl (out := [.int .i64 5, .slice (some ⟨b2, 0, none⟩) 240 240]) (by kernel_rfl)) (s_put rfl rfl (n_store 1 H rfl rfl rfl rfl (vs := [.int .i64 5, .slice (some ⟨b2, 0, none⟩) 240 240]) rfl (by simp [u8, u32, Value.oneCell']) (by kernel_rfl) (by simp) (out := [.int .i64 5, .slice (some ⟨b2, 0, none⟩) 240 240]) rfl) ?_)))))); rintro w H'; have H := H'.l2; clear H'; refine s_end (k_ret (doneL rfl [.agg #[.int .i64 5, .slice (some ⟨b2, 0, none⟩) 240 240]] ⟨⟨_, _, rfl, run_loadBlk (by kernel_rfl) (H.blk 1 rfl) (vs := [.int .i64 5, .slice (some ⟨b2, 0, none⟩) 240 240]) rfl⟩, trivial⟩ (v := .agg #[.int .i64 5, .slice (some ⟨b2, 0, none⟩) 240 240]) rfl ?_)); rw [show (List.replicate 240 (byt fl) ++ List.replicate (240 - 240) (0 : UInt8)).map u8 = (pgF 5 fl).body.map u8 from by simp [pgF]] at H; exact ⟨[blk b2 ((pgF 5 fl).body.map u8) 5], ⟨b2, rfl, rfl⟩, H.perm 2 [0] rfl rfl⟩
end Go.Proofs.YtbegkbjigbkljaaGreatDoor
namespace Go.Proofs.YtbegkbjigbkljaaGreatDoor
open Go.RowKit
theorem ask_i (pm ps pd : Nat) (D : Dsk) (G : StG) (m : Nat) (hF : Bnd D G m) (hm : m ≤ 1000000000) (s l : Int) (hok : (swS G.x s l).Ok 400) : Cn Tryz.prog 15 [.pointer (some ⟨pm, 0, none⟩), .int .i64 s, .int .i64 l] [moA pm ps none, stoA ps pd D G none] (fun v Γ => v = .int .i64 0 ∧ Γ = [moA pm ps (some (s, l)), stoA ps pd D G none]) := by
  intro z R w H
  have h1 := hF.gen
  have h2 := hF.epoch
  refine Ret.mono (ask0_c pm ps pd D G (by omega) s l z R w H) ?_
  rintro v w' ⟨Γ', (⟨h, rfl, rfl⟩ | ⟨h, pl, rfl, rfl⟩), H'⟩
  · exact absurd hok h
  · exact ⟨_, ⟨rfl, rfl⟩, H'.toMo⟩
set_option maxHeartbeats 2000000 in
theorem formatted_c  : Cn Tryz.prog 6 [] [] (fun v Γ => ∃ (pd ps : Nat) (D0 : Dsk), Fine D0 g07 3 ∧ D0.n = 400 ∧ v = .tuple #[.pointer (some ⟨pd, 0, none⟩), .pointer (some ⟨ps, 0, none⟩)] ∧ Γ = [stoA ps pd D0 g07 none]) := by
 intro z R w H'; have H : Sep z (R) w := H'
 clear H'; refine enter Tryz.func6 rfl 30 Tryz.ntmps6 rfl (k_seq (s_region (s_M 2 rfl rfl (s_end (k_seq (s_region (s_C rfl rfl rfl rfl rfl (fun w => Tryz.call27 _ w) (dnew_c 400) H rfl ?_))))))); rintro _ w _ (⟨hn_, rfl, rfl⟩ | ⟨_, pd, rfl, rfl⟩) H'
 ·exact absurd (by omega) hn_
 ·have H := H'.l1; clear H'; refine s_M 5 rfl rfl (s_end (k_seq (k_seq (s_region (s_M 2 rfl rfl (k_updA 11 (u := .bool (decide ((0 : Int) ≠ 0))) (v := .bool false) rfl (congrArg Value.bool (by decide)) (s_M 2 rfl rfl (s_do rfl rfl rfl (d_eql_pn rfl (by kernel_rfl) rfl rfl) (s_M 3 rfl rfl (s_C rfl rfl rfl rfl rfl (fun w => Tryz.call28 _ w) (format_c _ 400 _ _ _ (fm_ok (by omega) (by omega) (by omega) (by omega) (by omega))) H rfl ?_)))))))))); rintro _ w _ ⟨rfl, rfl⟩ H'; have H := H'.l1; clear H'; refine s_M 1 rfl rfl (k_updA 19 (u := .bool (decide ((0 : Int) ≠ 0))) (v := .bool false) rfl (congrArg Value.bool (by decide)) (s_M 1 rfl rfl (s_end (k_false rfl (k_skip (k_seq (s_region (s_M 1 rfl rfl (s_C rfl rfl rfl rfl rfl (fun w => Tryz.call26 _ w) (open_s _ _ _ _ _ _ (fm_open (fm_ok (n := 400) (p := 16) (s := 18) (l := 64) (by omega) (by omega) (by omega) (by omega) (by omega))) (fm_clean _ _ _ _) (show (2 : Int) ≤ (2 : Nat) ∧ (1 : Int) ≤ (2 : Nat) by omega) (by omega)) H rfl ?_))))))))); rintro _ w _ ⟨ps, D0, got0, hgd0, fi0, hn0, rfl, rfl⟩ H'; have H := H'.l1; clear H'; subst hgd0; have H' : Sep z (stoA ps pd D0 (opG (fmS 16 18 64 2) (fun _ => noPg)) none :: R) w := H
  clear H; have H := H'.l1; clear H'; refine s_M 5 rfl rfl (s_end (k_seq (k_seq (s_region (s_M 2 rfl rfl (k_updA 27 (u := .bool (decide ((0 : Int) ≠ 0))) (v := .bool false) rfl (congrArg Value.bool (by decide)) (s_end (k_false rfl (k_skip (k_seq (s_region (s_M 4 rfl rfl (s_end ?_))))))))))))); refine k_ret (doneL rfl [.pointer (some ⟨pd, 0, none⟩), .pointer (some ⟨ps, 0, none⟩)] ⟨rfl, ⟨rfl, trivial⟩⟩ (v := .tuple #[.pointer (some ⟨pd, 0, none⟩), .pointer (some ⟨ps, 0, none⟩)]) rfl ?_); exact ⟨[stoA ps pd D0 (opG (fmS 16 18 64 2) (fun _ => noPg)) none], ⟨_, _, D0, fi0, hn0, rfl, rfl⟩, H⟩
set_option maxHeartbeats 2000000 in
theorem known_c  : Cn Tryz.prog 8 [] [] (fun v Γ => v = .bool true ∧ Γ = []) := by
 intro z R w H'; have H : Sep z (R) w := H'
 clear H'; refine enter Tryz.func8 rfl 92 Tryz.ntmps8 rfl (k_seq (s_region (s_M 1 rfl rfl (s_end (k_seq (s_region (s_C rfl rfl rfl rfl rfl (fun w => Tryz.call6 _ w) (formatted_c ) H rfl ?_))))))); rintro _ w _ ⟨pd, ps, D0, fi0, hn0, rfl, rfl⟩ H'; have H := H'.l1; clear H'; refine s_M 5 rfl rfl (s_end (k_seq (k_seq (s_region (s_M 1 rfl rfl (s_do rfl rfl rfl (d_eql_pn rfl (by kernel_rfl) rfl rfl) (s_M 1 rfl rfl (s_C rfl rfl rfl rfl rfl (fun w => Tryz.call11 _ w) (rnew0_c ) H rfl ?_)))))))); rintro _ w _ ⟨rfl, rfl⟩ H'; have H := H'.l1; clear H'; refine s_do rfl rfl rfl (d_neq_nn rfl (by kernel_rfl) rfl rfl) (s_M 1 rfl rfl (s_end (k_false rfl (k_skip (k_seq (s_region (s_M 1 rfl rfl (s_C rfl rfl rfl rfl rfl (fun w => Tryz.call11 _ w) (new_m _) H rfl ?_)))))))); rintro _ w _ ⟨pm, rfl, rfl⟩ H'; have H := H'.l2; clear H'; refine s_M 1 rfl rfl (s_end (k_seq (k_seq (s_region (s_M 1 rfl rfl (s_do rfl rfl rfl (d_eql_pn rfl (by kernel_rfl) rfl rfl) (s_end (k_false rfl (k_skip (k_seq (s_region (s_M 1 rfl rfl (s_C rfl rfl rfl rfl rfl (fun w => Tryz.call18 _ w) (begin_s _ _ _ _) H.f1 rfl ?_))))))))))))); rintro _ w _ ⟨rfl, rfl⟩ H'; have H := H'.l2; clear H'; refine s_M 1 rfl rfl (s_end (k_seq (s_region (s_M 1 rfl rfl (s_C rfl rfl rfl rfl rfl (fun w => Tryz.call20 _ w) (page7_c _) H rfl ?_))))); rintro _ w _ ⟨pb1, rfl, rfl⟩ H'; have H := H'.l3; clear H'; refine s_C rfl rfl rfl rfl rfl (fun w => Tryz.call19 _ w) (write_s ps pd D0 g07 _ _ 3 (show ((3 : Nat) : Int) < 16 by omega) (pgF 5 7) (pgF_ok 7 (by omega)) _ _ (fun h q => blk_rd0 q (by rw [List.length_map]; exact pgF_len _ _))) H.f1 rfl ?_
 rintro _ w _ (⟨hbad, rfl, rfl⟩ | ⟨_, rfl, rfl⟩) H'
 ·(exfalso; have hbk := hbad.2; omega)
 ·have H := H'.l3; clear H'; refine s_M 1 rfl rfl (s_end (k_seq (s_region (s_M 1 rfl rfl (s_C rfl rfl rfl rfl rfl (fun w => Tryz.call21 _ w) (commit_s _ _ _ _ _ _ 3 fi0 (by omega)) H rfl ?_))))); rintro _ w _ ⟨D1, G1, fi1, hn1, ⟨hM1, hns1⟩, hx1, rfl, rfl⟩ H'; have H := H'.l3; clear H'; refine s_M 1 rfl rfl (s_end (k_seq (s_region ?_))); have hp1 : G1.x.pages = 16 := by rcases hx1 with e | e <;> rw [e] <;> rfl
  have hz1 := H.says 0 rfl (fun h q => stoA.gen0 q)
  have hg1 := fi1.gen
  have he1 := fi1.epoch
  have hnh1 : ¬ G1.home := fun h => by have := hns1 3 (by simp [pgSet]); rw [h] at this; cases this
  have hA1 : (swS G1.x 100 70).Ok (D1.n : Int) := by rw [hn1, hn0]; exact sw_ok _ (by omega) hp1 (by omega) (by omega)
  refine s_M 1 rfl rfl (s_C rfl rfl rfl rfl rfl (fun w => Tryz.call15 _ w) (ask_i _ _ _ _ _ _ fi1.bnd (by omega) 100 70 (by have := hA1; rw [hn1, hn0] at this; exact this)) H.f2 rfl ?_); rintro _ w _ ⟨rfl, rfl⟩ H'; have H := H'.l3; clear H'; refine s_M 1 rfl rfl (s_end (k_seq (s_region (s_M 1 rfl rfl (s_C rfl rfl rfl rfl rfl (fun w => Tryz.call16 _ w) (step_f _ _ _ (some (100, 70)) D1 G1 5 fi1 (by omega) (fun s l e => by cases e; exact hA1)) H rfl ?_))))); rintro _ w _ (⟨ht2, rfl, rfl⟩ | ⟨ht2, hh2, D2, G2, fi2, hMv2, hg2, hsl2, rfl, rfl⟩ | ⟨ht2, hh2, D2, G2, fi2, hMv2, hsl2, rfl, rfl⟩) H'
  ·cases ht2
  ·have H := H'.l3; clear H'; refine s_M 5 rfl rfl (s_end (k_seq (s_region ?_))); have hg2_ := hg2
   have hz2 := H.says 1 rfl (fun h q => stoA.gen0 q)
   have hg2 := fi2.gen
   have he2 := fi2.epoch
   have hA2 : (swS G2.x 100 70).Ok (D2.n : Int) := by rw [hMv2.n, hn1, hn0]; exact sw_ok _ (by omega) (hMv2.pages.trans hp1) (by omega) (by omega)
   refine s_M 1 rfl rfl (s_C rfl rfl rfl rfl rfl (fun w => Tryz.call16 _ w) (step_f _ _ _ (some (100, 70)) D2 G2 6 fi2 (by omega) (fun s l e => by cases e; exact hA2)) H rfl ?_); rintro _ w _ (⟨ht3, rfl, rfl⟩ | ⟨ht3, hh3, D3, G3, fi3, hMv3, hg3, hsl3, rfl, rfl⟩ | ⟨ht3, hh3, D3, G3, fi3, hMv3, hsl3, rfl, rfl⟩) H'
   ·cases ht3
   ·exact absurd hg2_ hh3
   ·have H := H'.l3; clear H'; refine s_M 5 rfl rfl (s_end (k_seq (s_region (s_M 1 rfl rfl (s_C rfl rfl rfl rfl rfl (fun w => Tryz.call13 _ w) (super_s ps pd D3 G3 none) H.f1 rfl ?_))))); rintro _ w _ ⟨rfl, rfl⟩ H'; have H := H'.l3; clear H'; simp only [Option.some.injEq, Prod.mk.injEq] at hsl3
    have hs3 : G3.x.start = 100 := by omega
    have hl3 : G3.x.len = 70 := by omega
    refine s_go rfl rfl rfl (n_alloc (P := Tryz.prog) H rfl (zs := [.int .i64 0, .int .i64 0, .int .i64 0, .int .i64 0, .int .i64 0, .int .i64 0, .int .i64 0]) (by kernel_rfl)) ?_; rintro _ w ⟨b2, rfl, H'⟩; have H := H'.l4; clear H'; refine s_put rfl rfl (n_store 0 H rfl rfl rfl rfl (vs := [.int .i64 G3.x.gen, .int .i64 G3.x.epoch, .int .i64 G3.x.pages, .int .i64 G3.x.start, .int .i64 G3.x.len, .int .i64 G3.x.head, .int .i64 G3.x.seq]) rfl (by simp [u8, u32, Value.oneCell']) (by kernel_rfl) (by simp) (out := [.int .i64 G3.x.gen, .int .i64 G3.x.epoch, .int .i64 G3.x.pages, .int .i64 G3.x.start, .int .i64 G3.x.len, .int .i64 G3.x.head, .int .i64 G3.x.seq]) rfl) ?_; rintro w H'; have H := H'.l4; clear H'; refine s_end (k_seq (s_region (s_M 2 rfl rfl (k_updA 49 (u := .bool (decide ((0 : Int) = 0))) (v := .bool true) rfl (congrArg Value.bool (by decide)) (s_M 3 rfl rfl (k_updA 52 (u := .bool (decide ((0 : Int) = 0))) (v := .bool true) rfl (congrArg Value.bool (by decide)) (s_M 4 rfl rfl (k_updA 56 (u := .bool (decide ((0 : Int) = 0))) (v := .bool true) rfl (congrArg Value.bool (by decide)) (s_M 4 rfl rfl (k_updA 60 (u := .bool (decide ((0 : Int) = 0))) (v := .bool true) rfl (congrArg Value.bool (by decide)) (s_M 8 rfl rfl (k_updA 68 (u := .bool (decide ((0 : Int) = 0))) (v := .bool true) rfl (congrArg Value.bool (by decide)) (s_M 7 rfl rfl ?_))))))))))))); refine k_updA 75 (u := .bool (decide ((0 : Int) = 0))) (v := .bool true) rfl (congrArg Value.bool (by decide)) (s_L 5 [3, 0] (mm1 (H.blk 0 rfl) mm0) rfl (by kernel_rfl) rfl (k_updA 80 (u := .bool (decide ((G3.x.start : Int) = 100))) (v := .bool true) rfl (congrArg Value.bool (decide_eq_true hs3)) (s_L 5 [4, 0] (mm1 (H.blk 0 rfl) mm0) rfl (by kernel_rfl) rfl (k_updA 85 (u := .bool (decide ((G3.x.len : Int) = 70))) (v := .bool true) rfl (congrArg Value.bool (decide_eq_true hl3)) (s_M 3 rfl rfl (s_C rfl rfl rfl rfl rfl (fun w => Tryz.call14 _ w) (busy_m _ _ _) H.f2 rfl ?_))))))
    rintro _ w _ ⟨rfl, rfl⟩ H'; have H := H'.l4; clear H'; refine s_M 3 rfl rfl (s_end (k_ret (doneL rfl [.bool true] ⟨rfl, trivial⟩ (v := .bool true) rfl ?_))); exact ⟨[], ⟨rfl, rfl⟩, H.perm 4 [] rfl rfl⟩
  ·exact absurd hh2 hnh1
end Go.Proofs.YtbegkbjigbkljaaGreatDoor
namespace Go.Proofs.YtbegkbjigbkljaaGreatDoor
open Go.RowKit
structure RoM where
  k0 : Int
  k1 : Int
  k2 : Int
  k3 : Int
  k4 : Int
  k5 : Bool
abbrev i64In (x : Int) : Prop := -9223372036854775808 ≤ x ∧ x ≤ 9223372036854775807
def RoM.In (d : RoM) : Prop := i64In d.k0 ∧ i64In d.k3
abbrev RoE := RoM × Value
def RoE.cells (e : RoE) : List Value := [.int .i64 e.1.k0, .int .i64 e.1.k1, .int .i64 e.1.k2, .int .i64 e.1.k3, .int .i64 e.1.k4, .bool e.1.k5, e.2]
def roC (es : List RoE) : List Value := es.flatMap RoE.cells
theorem roC_len (es : List RoE) : (roC es).length = es.length * 7 := by
  induction es with
  | nil => rfl
  | cons e es ih => simp only [roC, List.flatMap_cons, List.length_append] at ih ⊢; rw [ih]; simp [RoE.cells]; omega
theorem roC_get : ∀ {es : List RoE} {j : Nat} {e : RoE}, es[j]? = some e → ∀ k u, (RoE.cells e)[k]? = some u → (roC es)[j * 7 + k]? = some u
  | x :: es, 0, e, h, k, u, hk => by
    simp at h; subst h
    have hl := (List.getElem?_eq_some_iff.1 hk).1
    simp only [roC, List.flatMap_cons]
    rw [List.getElem?_append_left (by omega)]; simpa using hk
  | x :: es, j + 1, e, h, k, u, hk => by
    have := roC_get (es := es) (j := j) (by simpa using h) k u hk
    simp only [roC, List.flatMap_cons] at this ⊢
    rw [List.getElem?_append_right (by simp [RoE.cells]; omega)]
    rw [show (j + 1) * 7 + k - (RoE.cells x).length = j * 7 + k from by simp [RoE.cells]; omega]
    exact this
abbrev Ros := List (RoE × List Int)
def rosP (es : Ros) (h : Hp) : Prop := ∀ e ∈ es, rdH 1 e.1.2 e.2.length (e.2.map (Value.int .i64)) h ∧ e.1.1.In
def flL (fl : Nat → Int) : List Value := (List.range 16).map fun i => Value.int .i64 (fl i)
theorem flL_len (fl : Nat → Int) : (flL fl).length = 16 := by simp [flL]
theorem flL_get (fl : Nat → Int) {n : Nat} (h : n < 16) : (flL fl)[n]? = some (.int .i64 (fl n)) := by simp [flL, h]
theorem flL_set (fl : Nat → Int) (x : Int) {n : Nat} (h : n < 16) : (flL fl).take n ++ [Value.int .i64 x] ++ (flL fl).drop (n + 1) = flL (upf fl n x) := by
  have e : (flL fl).take n ++ [Value.int .i64 x] ++ (flL fl).drop (n + 1) = (flL fl).set n (.int .i64 x) := by
    rw [List.set_eq_take_append_cons_drop, if_pos (by rw [flL_len]; exact h), List.append_assoc]; rfl
  rw [e]
  apply List.ext_getElem?
  intro i
  rcases Nat.lt_or_ge i 16 with hi | hi
  · rw [flL_get _ hi, List.getElem?_set]
    by_cases q : n = i
    · subst q; rw [if_pos rfl, if_pos (by rw [flL_len]; exact h), upf_same]
    · rw [if_neg q, flL_get _ hi, upf_other _ _ (fun e => q e.symm)]
  · rw [List.getElem?_eq_none (by rw [List.length_set, flL_len]; omega), List.getElem?_eq_none (by rw [flL_len]; omega)]
def flP (fl : Nat → Int) (M : Nat → Pg) : Prop := ∀ n, n < 16 → (fl n = -1 ∧ M n = noPg) ∨ ∃ f : Int, fl n = ((byt f).toNat : Int) ∧ M n = pgF 5 f
theorem flP_set {fl : Nat → Int} {M : Nat → Pg} (h : flP fl M) (n : Nat) (f : Int) (k : Nat) : flP (upf fl n ((byt f).toNat : Int)) (curPg M (some (pgSet noPgs n (pgF 5 f), k))) := by
  intro i hi
  by_cases e : i = n
  · subst e
    refine .inr ⟨f, upf_same _ _ _, ?_⟩
    show (pgSet noPgs i (pgF 5 f) i).getD _ = _
    simp [pgSet]
  · have hm : curPg M (some (pgSet noPgs n (pgF 5 f), k)) i = M i := by
      show (pgSet noPgs n (pgF 5 f) i).getD _ = _
      simp [pgSet, e, noPgs]
    rw [upf_other _ _ e, hm]
    exact h i hi
theorem pgF_get (f : Int) (rest : List Value) {o : Nat} (ho : o < 240) : ((pgF 5 f).body.map u8 ++ rest)[o]? = some (u8 (byt f)) := by
  rw [List.getElem?_append_left (by simp [pgF]; omega)]
  show ((List.replicate 240 (byt f)).map u8)[o]? = _
  rw [List.map_replicate, List.getElem?_replicate, if_pos ho]
theorem read_p (ps pd : Nat) (D : Dsk) (G : StG) (n : Nat) (hn : (n : Int) < G.x.pages) (hf1 : D.f1 = 0) (c : Prop) (f : Int) (hM : (c ∧ G.M n = noPg) ∨ (¬ c ∧ G.M n = pgF 5 f)) :
    Cn Tryz.prog 22 [.pointer (some ⟨ps, 0, none⟩), .int .i64 (n : Int)] [stoA ps pd D G none] (fun v Γ => (c ∧ v = .tuple #[.agg #[.int .i64 0, .slice none 0 0], .int .i64 0] ∧ Γ = [stoA ps pd D G none]) ∨ (¬ c ∧ ∃ (g cap : Nat) (rest : List Value), 240 ≤ cap ∧ v = .tuple #[.agg #[.int .i64 5, .slice (some ⟨g, 0, none⟩) 240 cap], .int .i64 0] ∧ Γ = [blk g ((pgF 5 f).body.map u8 ++ rest) 5, stoA ps pd D G none])) := by
  intro z R w H
  refine Ret.mono (read_s ps pd D G none n hn hf1 (G.M n) rfl z R w H) ?_
  rintro v w' ⟨Γ', (⟨hno, rfl, rfl⟩ | ⟨hyes, v1, rfl, rfl⟩), H'⟩
  · rcases hM with ⟨e, _⟩ | ⟨_, hM⟩
    · exact ⟨_, .inl ⟨e, rfl, rfl⟩, H'⟩
    · rw [hM] at hno; exact absurd (congrArg Pg.kind hno) (show ¬ (5 : Int) = 0 by decide)
  · rcases hM with ⟨_, hM⟩ | ⟨e, hM⟩
    · rw [hM] at hyes; exact absurd hyes.1.1 (show ¬ (1 : Int) ≤ 0 by decide)
    · rw [hM] at H' ⊢
      obtain ⟨g, cap, rest, rfl, h1, h2, h3, H2⟩ := H'.ungrow 0 rfl (by omega)
      exact ⟨_, .inr ⟨e, g, cap, rest, by omega, rfl, rfl⟩, H2⟩
set_option maxHeartbeats 8000000 in
theorem relogKeeps_c (v : Value) (es : Ros) (hes : es.length ≤ 1048576) (A : Asn) (hA : ∀ h, A h → rdH 7 v es.length (roC (es.map Prod.fst)) h ∧ rosP es h) : Cn Tryz.prog 4 [v] [A] (fun v Γ => v = .bool true ∧ Γ = [A]) := by
 intro z R w H'; have H : Sep z (A :: R) w := H'
 clear H'; obtain ⟨ao, oc, rfl⟩ := H.says 0 rfl (fun h q => (hA h q).1.slc); refine enter Tryz.func4 rfl 190 Tryz.ntmps4 rfl (k_seq (s_region (s_M 1 rfl rfl (s_end (k_seq (s_region (s_C rfl rfl rfl rfl rfl (fun w => Tryz.call6 _ w) (formatted_c ) H rfl ?_))))))); rintro _ w _ ⟨pd, ps, D0, fi0, hn0, rfl, rfl⟩ H'; have H := H'.l2; clear H'; refine s_M 5 rfl rfl (s_end (k_seq (k_seq (s_region (s_M 1 rfl rfl (s_do rfl rfl rfl (d_eql_pn rfl (by kernel_rfl) rfl rfl) (s_M 1 rfl rfl (s_C rfl rfl rfl rfl rfl (fun w => Tryz.call8 _ w) (known_c ) H rfl ?_)))))))); rintro _ w _ ⟨rfl, rfl⟩ H'; have H := H'.l2; clear H'; refine s_M 2 rfl rfl (s_end (k_false rfl (k_skip (k_seq (s_region (s_M 1 rfl rfl (s_C rfl rfl rfl rfl rfl (fun w => Tryz.call11 _ w) (new_m _) H rfl ?_))))))); rintro _ w _ ⟨pm, rfl, rfl⟩ H'; have H := H'.l3; clear H'; refine s_M 1 rfl rfl (s_end (k_seq (k_seq (s_region (s_M 1 rfl rfl (s_do rfl rfl rfl (d_eql_pn rfl (by kernel_rfl) rfl rfl) (s_end (k_false rfl (k_skip (k_seq (s_region (s_go rfl rfl rfl (n_alloc (P := Tryz.prog) H rfl (zs := [.int .i64 0, .int .i64 0, .int .i64 0, .int .i64 0, .int .i64 0, .int .i64 0, .int .i64 0, .int .i64 0, .int .i64 0, .int .i64 0, .int .i64 0, .int .i64 0, .int .i64 0, .int .i64 0, .int .i64 0, .int .i64 0]) (by kernel_rfl)) ?_)))))))))))); rintro _ w ⟨b1, rfl, H'⟩; have H := H'.l4; clear H'; refine s_end (k_seq (k_seq (s_region (s_M 1 rfl rfl (s_end (k_block ?_)))))); refine c_loop (σ := Nat) (fun j => [(7, .int .i64 (j : Int)), (0, .slice ao es.length oc), (2, .bool false), (4, .pointer (some ⟨ps, 0, none⟩)), (5, .pointer (some ⟨pm, 0, none⟩)), (6, .pointer (some ⟨b1, 0, none⟩))])
   (fun j w => Sep z (blk b1 (fillG (List.replicate 16 (.int .i64 0)) (.int .i64 (-1)) j) 56 :: moA pm ps none :: stoA ps pd D0 g07 none :: A :: R) w ∧ (j ≤ 16)) (fun j => 16 - j) 0
   (fun _ hF => (hF.cons (hF.cons (hF.cons (hF.cons (hF.cons (hF.cons hF.nil 6 _ _ rfl rfl) 5 _ _ rfl rfl) 4 _ _ rfl rfl) 2 _ _ rfl rfl) 0 _ _ rfl rfl) 7 _ _ rfl (by go_num))) ⟨H, by omega⟩ ?_
 clear H; rintro j w ⟨H', hI⟩; have H := H'.l4; clear H'; have hj := hI; clear hI
 refine k_seq (k_seq (s_region (s_M 2 rfl rfl (s_end (k_dec rfl (fun h1 => ?_) (fun h1 => ?_))))))
 ·refine k_skip (k_seq (k_block (s_region (s_M 1 rfl rfl (s_do rfl rfl rfl (d_indexA (l := 16) rfl (z := 1) (j := j) (r := j) (by kernel_rfl) rfl rfl rfl (by omega) (by omega)) (s_put rfl rfl (n_store 0 H rfl rfl rfl rfl (vs := [.int .i64 (-1)]) rfl (by simp [u8, u32, Value.oneCell']) (by kernel_rfl) (by rw [fillG_len _ (by have := (show (List.replicate 16 (Value.int .i64 0)).length = 16 by simp); omega)]; have := (show (List.replicate 16 (Value.int .i64 0)).length = 16 by simp); simp only [List.length_cons, List.length_nil]; omega) (out := (fillG (List.replicate 16 (.int .i64 0)) (.int .i64 (-1)) (j + 1))) (fillG_step (by have := (show (List.replicate 16 (Value.int .i64 0)).length = 16 by simp); omega))) ?_)))))); rintro w H'; have H := H'.l4; clear H'; refine s_end (s_region (s_M 1 rfl rfl (s_do rfl rfl rfl (d_add64 rfl rfl rfl (r := (j : Int) + 1) (by omega) (by omega)) (s_M 1 rfl rfl (s_end ?_))))); intro _ hF; refine ⟨(j + 1), (hF.cons (hF.cons (hF.cons (hF.cons (hF.cons (hF.cons hF.nil 6 _ _ rfl rfl) 5 _ _ rfl rfl) 4 _ _ rfl rfl) 2 _ _ rfl rfl) 0 _ _ rfl rfl) 7 _ _ rfl (by go_num)), ⟨H, ?_⟩, ?_⟩
  ·omega
  ·omega
 ·obtain rfl : j = 16 := by omega
  refine k_exit (k_here (k_seq (s_region (s_M 1 rfl rfl (s_end (k_seq (s_region (s_M 1 rfl rfl (s_end (k_seq (s_region (s_do rfl rfl rfl (d_build rfl rfl (out := [.int .i64 0, .int .i64 0]) (by kernel_rfl)) (s_go rfl rfl rfl (n_alloc (P := Tryz.prog) H rfl (zs := [.int .i64 0, .int .i64 0]) (by kernel_rfl)) ?_))))))))))))); rintro _ w ⟨b2, rfl, H'⟩; have H := H'.l5; clear H'; refine s_put rfl rfl (n_store 0 H rfl rfl rfl rfl (vs := [.int .i64 0, .int .i64 0]) rfl (by simp [u8, u32, Value.oneCell']) (by kernel_rfl) (by simp) (out := [.int .i64 0, .int .i64 0]) rfl) ?_; rintro w H'; have H := H'.l5; clear H'; refine s_end (k_seq (k_seq (s_region (s_M 1 rfl rfl (s_end (k_block ?_)))))); refine c_loop (σ := Nat × Dsk × StG × Option (Int × Int) × Int × Int × (Nat → Int)) (fun ⟨i, D, G, t, a0, a1, fl⟩ => [(11, .int .i64 (i : Int)), (8, .int .i64 G.x.start), (9, .int .i64 G.x.len), (0, .slice ao es.length oc), (4, .pointer (some ⟨ps, 0, none⟩)), (5, .pointer (some ⟨pm, 0, none⟩)), (6, .pointer (some ⟨b1, 0, none⟩)), (10, .pointer (some ⟨b2, 0, none⟩))])
    (fun ⟨i, D, G, t, a0, a1, fl⟩ w => Sep z (blk b2 [.int .i64 a0, .int .i64 a1] 57 :: blk b1 (flL fl) 56 :: moA pm ps t :: stoA ps pd D G none :: A :: R) w ∧ (i ≤ es.length ∧ Fine D G (3 + 2 * i) ∧ D.n = 400 ∧ G.x.pages = 16 ∧ (∀ s l, t = some (s, l) → s = a0 ∧ l = a1 ∧ 18 ≤ s ∧ 64 ≤ l ∧ s ≤ 400 - l ∧ l ≤ 400) ∧ flP fl G.M)) (fun ⟨i, D, G, t, a0, a1, fl⟩ => es.length - i) ⟨0, D0, g07, none, 0, 0, (fun _ => -1)⟩
    (fun _ hF => (hF.cons (hF.cons (hF.cons (hF.cons (hF.cons (hF.cons (hF.cons (hF.cons hF.nil 10 _ _ rfl rfl) 6 _ _ rfl rfl) 5 _ _ rfl rfl) 4 _ _ rfl rfl) 0 _ _ rfl rfl) 9 _ _ rfl rfl) 8 _ _ rfl rfl) 11 _ _ rfl (by go_num))) ⟨H, by omega, fi0, hn0, rfl, fun s l e => (by cases e), fun n _ => .inl ⟨rfl, rfl⟩⟩ ?_
  clear H; rintro ⟨i, D, G, t, a0, a1, fl⟩ w ⟨H', hI⟩; dsimp only at hI H' ⊢
  have H := H'.l5; clear H'; obtain ⟨hi, fi, hDn, hGp, ht, hfl⟩ := hI; refine k_seq (k_seq (s_region (s_M 2 rfl rfl (s_do rfl rfl rfl (d_len rfl (z := 7) (by kernel_rfl) rfl) (s_M 1 rfl rfl (s_end (k_dec rfl (fun h2 => ?_) (fun h2 => ?_))))))))
  ·refine k_skip (k_seq (k_block (k_seq (s_region ?_)))); have hlt : i < es.length := by omega
   obtain ⟨⟨⟨dm, pv⟩, kl⟩, he⟩ : ∃ e, es[i]? = some e := ⟨_, List.getElem?_eq_getElem (by omega)⟩; have he' : (es.map Prod.fst)[i]? = some (dm, pv) := by rw [List.getElem?_map, he]; rfl
   have hdp := fun h q => (hA h q).2 _ (List.mem_of_getElem? he)
   have hdi := H.says 4 rfl (fun h q => (hdp h q).2)
   obtain ⟨hd0, hd3⟩ := hdi; dsimp only at hd0 hd3
   have hat := (H.rd 4 rfl (fun h q => (hA h q).1)).at (roC_get he' 0 _ rfl)
   have spv := H.says 4 rfl (fun h q => (hdp h q).1.slc)
   have hz := H.says 3 rfl (fun h q => stoA.gen0 q)
   have hge := fi.gen
   have hep := fi.epoch
   refine s_M 2 rfl rfl (s_do rfl rfl rfl (d_indexE rfl (z := 7) (j := i) (r := i * 7) (by kernel_rfl) rfl rfl rfl (by omega) hat (by omega)) (s_do rfl rfl rfl (d_loadAggE rfl rfl (vs := [.int .i64 dm.k0, .int .i64 dm.k1, .int .i64 dm.k2, .int .i64 dm.k3, .int .i64 dm.k4, .bool dm.k5, pv]) (by kernel_rfl) (by simp) (here (fun k u hk => (H.rd 4 rfl (fun h q => (hA h q).1)).at (roC_get he' k u hk)))) (s_go rfl rfl rfl (n_alloc (P := Tryz.prog) H rfl (zs := [.int .i64 0, .int .i64 0, .int .i64 0, .int .i64 0, .int .i64 0, .bool false, .slice none 0 0]) (by kernel_rfl)) ?_))); rintro _ w ⟨b3, rfl, H'⟩; have H := H'.l6; clear H'; refine s_put rfl rfl (n_store 0 H rfl rfl rfl rfl (vs := [.int .i64 dm.k0, .int .i64 dm.k1, .int .i64 dm.k2, .int .i64 dm.k3, .int .i64 dm.k4, .bool dm.k5, pv]) rfl (one_cons rfl (one_cons rfl (one_cons rfl (one_cons rfl (one_cons rfl (one_cons rfl (one_cons spv.one one_nil))))))) (by kernel_rfl) (by simp) (out := [.int .i64 dm.k0, .int .i64 dm.k1, .int .i64 dm.k2, .int .i64 dm.k3, .int .i64 dm.k4, .bool dm.k5, pv]) rfl) ?_; rintro w H'; have H := H'.l6; clear H'; refine s_end (k_seq (k_seq (s_region (s_L 2 [0, 0] (mm1 (H.blk 0 rfl) mm0) rfl (by kernel_rfl) rfl (s_end (k_block (k_seq (s_region (s_M 2 rfl rfl (s_end (k_dec rfl (fun h3 => ?_) (fun h3 => ?_))))))))))))
   ·refine k_seq (s_region (s_L 5 [1, 0, 2, 0] (mm1 (H.blk 0 rfl) mm0) rfl (by kernel_rfl) rfl (s_C rfl rfl rfl rfl rfl (fun w => Tryz.call15 _ w) (ask_m _ _ _ _ D G (3 + 2 * i) fi.bnd (by omega) dm.k1 dm.k2) H.f4.f4 rfl ?_))); rintro _ w _ (⟨c5_, hcn5, rfl, rfl⟩ | ⟨hok5, rfl, rfl⟩) H'
    ·have H := H'.l6; clear H'; refine s_M 1 rfl rfl (s_end (k_dec rfl (fun h4 => ?_) (fun h4 => ?_)))
     ·exact absurd h4 hcn5
     ·refine k_skip (k_seq (s_region (s_M 1 rfl rfl (s_C rfl rfl rfl rfl rfl (fun w => Tryz.call13 _ w) (super_s ps pd D G none) H.f1 rfl ?_)))); rintro _ w _ ⟨rfl, rfl⟩ H'; have H := H'.l6; clear H'; refine s_go rfl rfl rfl (n_alloc (P := Tryz.prog) H rfl (zs := [.int .i64 0, .int .i64 0, .int .i64 0, .int .i64 0, .int .i64 0, .int .i64 0, .int .i64 0]) (by kernel_rfl)) ?_; rintro _ w ⟨b4, rfl, H'⟩; have H := H'.l7; clear H'; refine s_put rfl rfl (n_store 0 H rfl rfl rfl rfl (vs := [.int .i64 G.x.gen, .int .i64 G.x.epoch, .int .i64 G.x.pages, .int .i64 G.x.start, .int .i64 G.x.len, .int .i64 G.x.head, .int .i64 G.x.seq]) rfl (by simp [u8, u32, Value.oneCell']) (by kernel_rfl) (by simp) (out := [.int .i64 G.x.gen, .int .i64 G.x.epoch, .int .i64 G.x.pages, .int .i64 G.x.start, .int .i64 G.x.len, .int .i64 G.x.head, .int .i64 G.x.seq]) rfl) ?_; rintro w H'; have H := H'.l7; clear H'; refine s_end (k_seq (s_region (s_L 4 [3, 0] (mm1 (H.blk 0 rfl) mm0) rfl (by kernel_rfl) rfl (k_updA 128 (u := .bool (decide ((G.x.start : Int) ≠ G.x.start))) (v := .bool false) rfl (congrArg Value.bool (by simp)) (s_L 5 [4, 0] (mm1 (H.blk 0 rfl) mm0) rfl (by kernel_rfl) rfl (k_updA 133 (u := .bool (decide ((G.x.len : Int) ≠ G.x.len))) (v := .bool false) rfl (congrArg Value.bool (by simp)) (s_M 1 rfl rfl (s_end (k_false rfl (k_skip (s_region (s_M 1 rfl rfl (s_do rfl rfl rfl (d_add64 rfl rfl rfl (r := (i : Int) + 1) (by omega) (by omega)) ?_))))))))))))); refine s_M 1 rfl rfl (s_end ?_); replace H := H.f3.d.d.f4.f1.f2.f4.f4; intro _ hF; refine ⟨⟨i + 1, D, G, t, a0, a1, fl⟩, (hF.cons (hF.cons (hF.cons (hF.cons (hF.cons (hF.cons (hF.cons (hF.cons hF.nil 10 _ _ rfl rfl) 6 _ _ rfl rfl) 5 _ _ rfl rfl) 4 _ _ rfl rfl) 0 _ _ rfl rfl) 9 _ _ rfl rfl) 8 _ _ rfl rfl) 11 _ _ rfl (by go_num)), ⟨H, ?_⟩, ?_⟩
      ·refine ⟨by omega, by first | exact fi.le (by omega) | exact fi3.le (by omega) | exact fi2.le (by omega), by first | exact hDn | exact hMv3.n.trans hDn | exact hn2.trans hDn, by first | exact hGp | exact hMv3.pages.trans hGp | (rcases hx2 with e | e <;> dsimp only <;> rw [e] <;> exact hGp), by first | exact ht | (intro s l e; cases e; done) | (intro s l e; cases e; have := sw_inv hok5 hGp; exact ⟨rfl, rfl, this⟩), ?_⟩; first | exact hfl | (dsimp only; rw [hMv3.M]; exact hfl) | (dsimp only; rw [hM2]; exact hfl) | (dsimp only; rw [hM2]; exact flP_set hfl _ _ _)
      ·(dsimp only; omega)
    ·have H := H'.l6; clear H'; refine s_M 1 rfl rfl (k_updA 62 (u := .bool (decide ((0 : Int) = 0))) (v := .bool true) rfl (congrArg Value.bool (by decide)) (s_end (k_true rfl (s_region (s_L 4 [1, 0, 2, 0] (mm1 (H.blk 2 rfl) mm0) rfl (by kernel_rfl) rfl (s_do rfl rfl rfl (d_build rfl rfl (out := [.int .i64 dm.k1, .int .i64 dm.k2]) (by kernel_rfl)) (s_put rfl rfl (n_store 3 H rfl rfl rfl rfl (vs := [.int .i64 dm.k1, .int .i64 dm.k2]) rfl (by simp [u8, u32, Value.oneCell']) (by kernel_rfl) (by simp) (out := [.int .i64 dm.k1, .int .i64 dm.k2]) rfl) ?_))))))); rintro w H'; have H := H'.l6; clear H'; refine s_end (k_seq (s_region (s_M 1 rfl rfl (s_C rfl rfl rfl rfl rfl (fun w => Tryz.call13 _ w) (super_s ps pd D G none) H.f1 rfl ?_)))); rintro _ w _ ⟨rfl, rfl⟩ H'; have H := H'.l6; clear H'; refine s_go rfl rfl rfl (n_alloc (P := Tryz.prog) H rfl (zs := [.int .i64 0, .int .i64 0, .int .i64 0, .int .i64 0, .int .i64 0, .int .i64 0, .int .i64 0]) (by kernel_rfl)) ?_; rintro _ w ⟨b5, rfl, H'⟩; have H := H'.l7; clear H'; refine s_put rfl rfl (n_store 0 H rfl rfl rfl rfl (vs := [.int .i64 G.x.gen, .int .i64 G.x.epoch, .int .i64 G.x.pages, .int .i64 G.x.start, .int .i64 G.x.len, .int .i64 G.x.head, .int .i64 G.x.seq]) rfl (by simp [u8, u32, Value.oneCell']) (by kernel_rfl) (by simp) (out := [.int .i64 G.x.gen, .int .i64 G.x.epoch, .int .i64 G.x.pages, .int .i64 G.x.start, .int .i64 G.x.len, .int .i64 G.x.head, .int .i64 G.x.seq]) rfl) ?_; rintro w H'; have H := H'.l7; clear H'; refine s_end (k_seq (s_region (s_L 4 [3, 0] (mm1 (H.blk 0 rfl) mm0) rfl (by kernel_rfl) rfl (k_updA 128 (u := .bool (decide ((G.x.start : Int) ≠ G.x.start))) (v := .bool false) rfl (congrArg Value.bool (by simp)) (s_L 5 [4, 0] (mm1 (H.blk 0 rfl) mm0) rfl (by kernel_rfl) rfl (k_updA 133 (u := .bool (decide ((G.x.len : Int) ≠ G.x.len))) (v := .bool false) rfl (congrArg Value.bool (by simp)) (s_M 1 rfl rfl (s_end (k_false rfl (k_skip (s_region (s_M 1 rfl rfl (s_do rfl rfl rfl (d_add64 rfl rfl rfl (r := (i : Int) + 1) (by omega) (by omega)) ?_)))))))))))))
     refine s_M 1 rfl rfl (s_end ?_); replace H := H.f3.d.d.f4.f1.f2.f4.f4; intro _ hF; refine ⟨⟨i + 1, D, G, (some (dm.k1, dm.k2)), dm.k1, dm.k2, fl⟩, (hF.cons (hF.cons (hF.cons (hF.cons (hF.cons (hF.cons (hF.cons (hF.cons hF.nil 10 _ _ rfl rfl) 6 _ _ rfl rfl) 5 _ _ rfl rfl) 4 _ _ rfl rfl) 0 _ _ rfl rfl) 9 _ _ rfl rfl) 8 _ _ rfl rfl) 11 _ _ rfl (by go_num)), ⟨H, ?_⟩, ?_⟩
     ·refine ⟨by omega, by first | exact fi.le (by omega) | exact fi3.le (by omega) | exact fi2.le (by omega), by first | exact hDn | exact hMv3.n.trans hDn | exact hn2.trans hDn, by first | exact hGp | exact hMv3.pages.trans hGp | (rcases hx2 with e | e <;> dsimp only <;> rw [e] <;> exact hGp), by first | exact ht | (intro s l e; cases e; done) | (intro s l e; cases e; have := sw_inv hok5 hGp; exact ⟨rfl, rfl, this⟩), ?_⟩; first | exact hfl | (dsimp only; rw [hMv3.M]; exact hfl) | (dsimp only; rw [hM2]; exact hfl) | (dsimp only; rw [hM2]; exact flP_set hfl _ _ _)
     ·(dsimp only; omega)
   ·refine k_seq (s_region (s_M 2 rfl rfl (s_end (k_dec rfl (fun h5 => ?_) (fun h5 => ?_)))))
    ·refine k_seq (s_region (s_M 1 rfl rfl (s_C rfl rfl rfl rfl rfl (fun w => Tryz.call14 _ w) (busy_m _ _ _) H.f3 rfl ?_))); rintro _ w _ ⟨rfl, rfl⟩ H'; have H := H'.l6; clear H'; refine s_M 1 rfl rfl (s_end (k_seq (s_region (s_M 1 rfl rfl (s_C rfl rfl rfl rfl rfl (fun w => Tryz.call16 _ w) (step_f _ _ _ t D G (3 + 2 * i) fi (by omega) (fun s l e => by have := ht s l e; rw [hDn]; exact sw_ok _ (by omega) hGp (by omega) (by omega))) H.f4.f1 rfl ?_))))); rintro _ w _ (⟨ht3, rfl, rfl⟩ | ⟨ht3, hh3, D3, G3, fi3, hMv3, hg3, hsl3, rfl, rfl⟩ | ⟨ht3, hh3, D3, G3, fi3, hMv3, hsl3, rfl, rfl⟩) H'
     ·have H := H'.l6; clear H'; refine s_M 5 rfl rfl (s_end (k_seq (k_seq (s_region (s_M 1 rfl rfl (s_end (k_false rfl (k_skip (k_seq (s_region (k_updA 13 (u := .bool t.isSome) (v := .bool false) rfl (congrArg Value.bool (by rw [ht3]; rfl)) (s_M 11 rfl rfl (k_updA 92 (u := .bool (decide ((18 : Int) ≠ 18))) (v := .bool false) rfl (congrArg Value.bool (by decide)) ?_))))))))))))); refine s_M 2 rfl rfl (s_end (k_false rfl (k_skip (k_seq (s_region (s_M 1 rfl rfl (s_C rfl rfl rfl rfl rfl (fun w => Tryz.call13 _ w) (super_s ps pd D G none) H.f1 rfl ?_))))))); rintro _ w _ ⟨rfl, rfl⟩ H'; have H := H'.l6; clear H'; refine s_go rfl rfl rfl (n_alloc (P := Tryz.prog) H rfl (zs := [.int .i64 0, .int .i64 0, .int .i64 0, .int .i64 0, .int .i64 0, .int .i64 0, .int .i64 0]) (by kernel_rfl)) ?_; rintro _ w ⟨b6, rfl, H'⟩; have H := H'.l7; clear H'; refine s_put rfl rfl (n_store 0 H rfl rfl rfl rfl (vs := [.int .i64 G.x.gen, .int .i64 G.x.epoch, .int .i64 G.x.pages, .int .i64 G.x.start, .int .i64 G.x.len, .int .i64 G.x.head, .int .i64 G.x.seq]) rfl (by simp [u8, u32, Value.oneCell']) (by kernel_rfl) (by simp) (out := [.int .i64 G.x.gen, .int .i64 G.x.epoch, .int .i64 G.x.pages, .int .i64 G.x.start, .int .i64 G.x.len, .int .i64 G.x.head, .int .i64 G.x.seq]) rfl) ?_; rintro w H'; have H := H'.l7; clear H'; refine s_end (k_seq (s_region (s_L 4 [3, 0] (mm1 (H.blk 0 rfl) mm0) rfl (by kernel_rfl) rfl (k_updA 128 (u := .bool (decide ((G.x.start : Int) ≠ G.x.start))) (v := .bool false) rfl (congrArg Value.bool (by simp)) (s_L 5 [4, 0] (mm1 (H.blk 0 rfl) mm0) rfl (by kernel_rfl) rfl (k_updA 133 (u := .bool (decide ((G.x.len : Int) ≠ G.x.len))) (v := .bool false) rfl (congrArg Value.bool (by simp)) (s_M 1 rfl rfl (s_end (k_false rfl (k_skip (s_region (s_M 1 rfl rfl (s_do rfl rfl rfl (d_add64 rfl rfl rfl (r := (i : Int) + 1) (by omega) (by omega)) ?_)))))))))))))
      refine s_M 1 rfl rfl (s_end ?_); replace H := H.f3.d.d.f4.f1.f2.f4.f4; intro _ hF; refine ⟨⟨i + 1, D, G, t, a0, a1, fl⟩, (hF.cons (hF.cons (hF.cons (hF.cons (hF.cons (hF.cons (hF.cons (hF.cons hF.nil 10 _ _ rfl rfl) 6 _ _ rfl rfl) 5 _ _ rfl rfl) 4 _ _ rfl rfl) 0 _ _ rfl rfl) 9 _ _ rfl rfl) 8 _ _ rfl rfl) 11 _ _ rfl (by go_num)), ⟨H, ?_⟩, ?_⟩
      ·refine ⟨by omega, by first | exact fi.le (by omega) | exact fi3.le (by omega) | exact fi2.le (by omega), by first | exact hDn | exact hMv3.n.trans hDn | exact hn2.trans hDn, by first | exact hGp | exact hMv3.pages.trans hGp | (rcases hx2 with e | e <;> dsimp only <;> rw [e] <;> exact hGp), by first | exact ht | (intro s l e; cases e; done) | (intro s l e; cases e; have := sw_inv hok5 hGp; exact ⟨rfl, rfl, this⟩), ?_⟩; first | exact hfl | (dsimp only; rw [hMv3.M]; exact hfl) | (dsimp only; rw [hM2]; exact hfl) | (dsimp only; rw [hM2]; exact flP_set hfl _ _ _)
      ·(dsimp only; omega)
     ·have H := H'.l6; clear H'; refine s_M 5 rfl rfl (s_end (k_seq (k_seq (s_region (s_M 1 rfl rfl (s_end (k_false rfl (k_skip (k_seq (s_region (k_updA 13 (u := .bool t.isSome) (v := .bool true) rfl (congrArg Value.bool ht3) (s_M 4 rfl rfl (k_updA 85 (u := .bool (decide ((0 : Int) ≠ 0))) (v := .bool false) rfl (congrArg Value.bool (by decide)) ?_))))))))))))); refine s_M 9 rfl rfl (s_end (k_false rfl (k_skip (k_seq (k_updA 8 (u := .int .i64 G.x.start) (v := .int .i64 G3.x.start) rfl (congrArg (Value.int .i64) (by first | exact hsl3.1.symm | exact (ht _ _ hsl3).1.symm | (rcases hx2 with e | e <;> rw [e] <;> rfl))) (k_updA 9 (u := .int .i64 G.x.len) (v := .int .i64 G3.x.len) rfl (congrArg (Value.int .i64) (by first | exact hsl3.2.symm | exact (ht _ _ hsl3).2.1.symm | (rcases hx2 with e | e <;> rw [e] <;> rfl))) (s_region (s_M 1 rfl rfl (s_C rfl rfl rfl rfl rfl (fun w => Tryz.call13 _ w) (super_s ps pd D3 G3 none) H.f1 rfl ?_))))))))); rintro _ w _ ⟨rfl, rfl⟩ H'; have H := H'.l6; clear H'; refine s_go rfl rfl rfl (n_alloc (P := Tryz.prog) H rfl (zs := [.int .i64 0, .int .i64 0, .int .i64 0, .int .i64 0, .int .i64 0, .int .i64 0, .int .i64 0]) (by kernel_rfl)) ?_; rintro _ w ⟨b7, rfl, H'⟩; have H := H'.l7; clear H'; refine s_put rfl rfl (n_store 0 H rfl rfl rfl rfl (vs := [.int .i64 G3.x.gen, .int .i64 G3.x.epoch, .int .i64 G3.x.pages, .int .i64 G3.x.start, .int .i64 G3.x.len, .int .i64 G3.x.head, .int .i64 G3.x.seq]) rfl (by simp [u8, u32, Value.oneCell']) (by kernel_rfl) (by simp) (out := [.int .i64 G3.x.gen, .int .i64 G3.x.epoch, .int .i64 G3.x.pages, .int .i64 G3.x.start, .int .i64 G3.x.len, .int .i64 G3.x.head, .int .i64 G3.x.seq]) rfl) ?_
      rintro w H'; have H := H'.l7; clear H'; refine s_end (k_seq (s_region (s_L 4 [3, 0] (mm1 (H.blk 0 rfl) mm0) rfl (by kernel_rfl) rfl (k_updA 128 (u := .bool (decide ((G3.x.start : Int) ≠ G3.x.start))) (v := .bool false) rfl (congrArg Value.bool (by simp)) (s_L 5 [4, 0] (mm1 (H.blk 0 rfl) mm0) rfl (by kernel_rfl) rfl (k_updA 133 (u := .bool (decide ((G3.x.len : Int) ≠ G3.x.len))) (v := .bool false) rfl (congrArg Value.bool (by simp)) (s_M 1 rfl rfl (s_end (k_false rfl (k_skip (s_region (s_M 1 rfl rfl (s_do rfl rfl rfl (d_add64 rfl rfl rfl (r := (i : Int) + 1) (by omega) (by omega)) ?_))))))))))))); refine s_M 1 rfl rfl (s_end ?_); replace H := H.f3.d.d.f4.f1.f2.f4.f4; intro _ hF; refine ⟨⟨i + 1, D3, G3, t, a0, a1, fl⟩, (hF.cons (hF.cons (hF.cons (hF.cons (hF.cons (hF.cons (hF.cons (hF.cons hF.nil 10 _ _ rfl rfl) 6 _ _ rfl rfl) 5 _ _ rfl rfl) 4 _ _ rfl rfl) 0 _ _ rfl rfl) 9 _ _ rfl rfl) 8 _ _ rfl rfl) 11 _ _ rfl (by go_num)), ⟨H, ?_⟩, ?_⟩
      ·refine ⟨by omega, by first | exact fi.le (by omega) | exact fi3.le (by omega) | exact fi2.le (by omega), by first | exact hDn | exact hMv3.n.trans hDn | exact hn2.trans hDn, by first | exact hGp | exact hMv3.pages.trans hGp | (rcases hx2 with e | e <;> dsimp only <;> rw [e] <;> exact hGp), by first | exact ht | (intro s l e; cases e; done) | (intro s l e; cases e; have := sw_inv hok5 hGp; exact ⟨rfl, rfl, this⟩), ?_⟩; first | exact hfl | (dsimp only; rw [hMv3.M]; exact hfl) | (dsimp only; rw [hM2]; exact hfl) | (dsimp only; rw [hM2]; exact flP_set hfl _ _ _)
      ·(dsimp only; omega)
     ·have H := H'.l6; clear H'; refine s_M 5 rfl rfl (s_end (k_seq (k_seq (s_region (s_M 1 rfl rfl (s_end (k_true rfl (k_seq (s_region (s_do rfl rfl rfl (d_indexA (l := 2) rfl (z := 1) (j := 0) (r := 0) (by kernel_rfl) rfl rfl rfl (by omega) (by omega)) (s_L 2 [0] (mm1 (H.blk 3 rfl) mm0) rfl (by kernel_rfl) rfl (s_end (s_region ?_))))))))))))); refine s_do rfl rfl rfl (d_indexA (l := 2) rfl (z := 1) (j := 1) (r := 1) (by kernel_rfl) rfl rfl rfl (by omega) (by omega)) (s_L 2 [0] (mm1 (H.blk 3 rfl) mm0) rfl (by kernel_rfl) rfl (s_end (k_seq (s_region (k_updA 13 (u := .bool t.isSome) (v := .bool true) rfl (congrArg Value.bool ht3) (s_M 4 rfl rfl (k_updA 85 (u := .bool (decide ((0 : Int) ≠ 0))) (v := .bool false) rfl (congrArg Value.bool (by decide)) (s_M 9 rfl rfl (s_end (k_false rfl (k_skip (k_seq (k_updA 8 (u := .int .i64 a0) (v := .int .i64 G3.x.start) rfl (congrArg (Value.int .i64) (by first | exact hsl3.1.symm | exact (ht _ _ hsl3).1.symm | (rcases hx2 with e | e <;> rw [e] <;> rfl))) ?_))))))))))))); refine k_updA 9 (u := .int .i64 a1) (v := .int .i64 G3.x.len) rfl (congrArg (Value.int .i64) (by first | exact hsl3.2.symm | exact (ht _ _ hsl3).2.1.symm | (rcases hx2 with e | e <;> rw [e] <;> rfl))) (s_region (s_M 1 rfl rfl (s_C rfl rfl rfl rfl rfl (fun w => Tryz.call13 _ w) (super_s ps pd D3 G3 none) H.f1 rfl ?_))); rintro _ w _ ⟨rfl, rfl⟩ H'; have H := H'.l6; clear H'; refine s_go rfl rfl rfl (n_alloc (P := Tryz.prog) H rfl (zs := [.int .i64 0, .int .i64 0, .int .i64 0, .int .i64 0, .int .i64 0, .int .i64 0, .int .i64 0]) (by kernel_rfl)) ?_; rintro _ w ⟨b8, rfl, H'⟩
      have H := H'.l7; clear H'; refine s_put rfl rfl (n_store 0 H rfl rfl rfl rfl (vs := [.int .i64 G3.x.gen, .int .i64 G3.x.epoch, .int .i64 G3.x.pages, .int .i64 G3.x.start, .int .i64 G3.x.len, .int .i64 G3.x.head, .int .i64 G3.x.seq]) rfl (by simp [u8, u32, Value.oneCell']) (by kernel_rfl) (by simp) (out := [.int .i64 G3.x.gen, .int .i64 G3.x.epoch, .int .i64 G3.x.pages, .int .i64 G3.x.start, .int .i64 G3.x.len, .int .i64 G3.x.head, .int .i64 G3.x.seq]) rfl) ?_; rintro w H'; have H := H'.l7; clear H'; refine s_end (k_seq (s_region (s_L 4 [3, 0] (mm1 (H.blk 0 rfl) mm0) rfl (by kernel_rfl) rfl (k_updA 128 (u := .bool (decide ((G3.x.start : Int) ≠ G3.x.start))) (v := .bool false) rfl (congrArg Value.bool (by simp)) (s_L 5 [4, 0] (mm1 (H.blk 0 rfl) mm0) rfl (by kernel_rfl) rfl (k_updA 133 (u := .bool (decide ((G3.x.len : Int) ≠ G3.x.len))) (v := .bool false) rfl (congrArg Value.bool (by simp)) (s_M 1 rfl rfl (s_end (k_false rfl (k_skip (s_region (s_M 1 rfl rfl (s_do rfl rfl rfl (d_add64 rfl rfl rfl (r := (i : Int) + 1) (by omega) (by omega)) ?_))))))))))))); refine s_M 1 rfl rfl (s_end ?_); replace H := H.f3.d.d.f4.f1.f2.f4.f4; intro _ hF; refine ⟨⟨i + 1, D3, G3, none, a0, a1, fl⟩, (hF.cons (hF.cons (hF.cons (hF.cons (hF.cons (hF.cons (hF.cons (hF.cons hF.nil 10 _ _ rfl rfl) 6 _ _ rfl rfl) 5 _ _ rfl rfl) 4 _ _ rfl rfl) 0 _ _ rfl rfl) 9 _ _ rfl rfl) 8 _ _ rfl rfl) 11 _ _ rfl (by go_num)), ⟨H, ?_⟩, ?_⟩
      ·refine ⟨by omega, by first | exact fi.le (by omega) | exact fi3.le (by omega) | exact fi2.le (by omega), by first | exact hDn | exact hMv3.n.trans hDn | exact hn2.trans hDn, by first | exact hGp | exact hMv3.pages.trans hGp | (rcases hx2 with e | e <;> dsimp only <;> rw [e] <;> exact hGp), by first | exact ht | (intro s l e; cases e; done) | (intro s l e; cases e; have := sw_inv hok5 hGp; exact ⟨rfl, rfl, this⟩), ?_⟩; first | exact hfl | (dsimp only; rw [hMv3.M]; exact hfl) | (dsimp only; rw [hM2]; exact hfl) | (dsimp only; rw [hM2]; exact flP_set hfl _ _ _)
      ·(dsimp only; omega)
    ·refine k_seq (s_region (s_M 2 rfl rfl (s_end (k_dec rfl (fun h6 => ?_) (fun h6 => ?_)))))
     ·refine s_region (s_M 1 rfl rfl (s_C rfl rfl rfl rfl rfl (fun w => Tryz.call17 _ w) (cancel_m _ _ _) H.f3 rfl ?_)); rintro _ w _ ⟨rfl, rfl⟩ H'; have H := H'.l6; clear H'; refine s_end (k_seq (s_region (s_M 1 rfl rfl (s_C rfl rfl rfl rfl rfl (fun w => Tryz.call13 _ w) (super_s ps pd D G none) H.f4 rfl ?_)))); rintro _ w _ ⟨rfl, rfl⟩ H'; have H := H'.l6; clear H'; refine s_go rfl rfl rfl (n_alloc (P := Tryz.prog) H rfl (zs := [.int .i64 0, .int .i64 0, .int .i64 0, .int .i64 0, .int .i64 0, .int .i64 0, .int .i64 0]) (by kernel_rfl)) ?_; rintro _ w ⟨b9, rfl, H'⟩; have H := H'.l7; clear H'; refine s_put rfl rfl (n_store 0 H rfl rfl rfl rfl (vs := [.int .i64 G.x.gen, .int .i64 G.x.epoch, .int .i64 G.x.pages, .int .i64 G.x.start, .int .i64 G.x.len, .int .i64 G.x.head, .int .i64 G.x.seq]) rfl (by simp [u8, u32, Value.oneCell']) (by kernel_rfl) (by simp) (out := [.int .i64 G.x.gen, .int .i64 G.x.epoch, .int .i64 G.x.pages, .int .i64 G.x.start, .int .i64 G.x.len, .int .i64 G.x.head, .int .i64 G.x.seq]) rfl) ?_; rintro w H'; have H := H'.l7; clear H'; refine s_end (k_seq (s_region (s_L 4 [3, 0] (mm1 (H.blk 0 rfl) mm0) rfl (by kernel_rfl) rfl (k_updA 128 (u := .bool (decide ((G.x.start : Int) ≠ G.x.start))) (v := .bool false) rfl (congrArg Value.bool (by simp)) (s_L 5 [4, 0] (mm1 (H.blk 0 rfl) mm0) rfl (by kernel_rfl) rfl (k_updA 133 (u := .bool (decide ((G.x.len : Int) ≠ G.x.len))) (v := .bool false) rfl (congrArg Value.bool (by simp)) (s_M 1 rfl rfl (s_end (k_false rfl (k_skip (s_region (s_M 1 rfl rfl (s_do rfl rfl rfl (d_add64 rfl rfl rfl (r := (i : Int) + 1) (by omega) (by omega)) ?_)))))))))))))
      refine s_M 1 rfl rfl (s_end ?_); replace H := H.f3.d.d.f4.f1.f2.f4.f4; intro _ hF; refine ⟨⟨i + 1, D, G, none, a0, a1, fl⟩, (hF.cons (hF.cons (hF.cons (hF.cons (hF.cons (hF.cons (hF.cons (hF.cons hF.nil 10 _ _ rfl rfl) 6 _ _ rfl rfl) 5 _ _ rfl rfl) 4 _ _ rfl rfl) 0 _ _ rfl rfl) 9 _ _ rfl rfl) 8 _ _ rfl rfl) 11 _ _ rfl (by go_num)), ⟨H, ?_⟩, ?_⟩
      ·refine ⟨by omega, by first | exact fi.le (by omega) | exact fi3.le (by omega) | exact fi2.le (by omega), by first | exact hDn | exact hMv3.n.trans hDn | exact hn2.trans hDn, by first | exact hGp | exact hMv3.pages.trans hGp | (rcases hx2 with e | e <;> dsimp only <;> rw [e] <;> exact hGp), by first | exact ht | (intro s l e; cases e; done) | (intro s l e; cases e; have := sw_inv hok5 hGp; exact ⟨rfl, rfl, this⟩), ?_⟩; first | exact hfl | (dsimp only; rw [hMv3.M]; exact hfl) | (dsimp only; rw [hM2]; exact hfl) | (dsimp only; rw [hM2]; exact flP_set hfl _ _ _)
      ·(dsimp only; omega)
     ·refine k_seq (s_region (s_M 2 rfl rfl (s_end (k_dec rfl (fun h7 => ?_) (fun h7 => ?_)))))
      ·refine k_seq (k_seq (s_region (s_M 1 rfl rfl (s_C rfl rfl rfl rfl rfl (fun w => Tryz.call18 _ w) (begin_s _ _ _ _) H.f4 rfl ?_)))); rintro _ w _ ⟨rfl, rfl⟩ H'; have H := H'.l6; clear H'; refine s_M 1 rfl rfl (k_updA 103 (u := .bool (decide ((0 : Int) ≠ 0))) (v := .bool false) rfl (congrArg Value.bool (by decide)) (s_end (k_false rfl (k_skip (k_seq ?_))))); replace H := H.f1; refine a_region (Sep z (blk b3 [.int .i64 dm.k0, .int .i64 dm.k1, .int .i64 dm.k2, .int .i64 dm.k3, .int .i64 dm.k4, .bool dm.k5, pv] 47 :: R)) 8 rfl (by kernel_rfl) (fun w' x' _ => ?_); have H' := H.ext0 x'; clear x' H; revert H'; generalize w' = w; intro H'
       have H := H'.l6; clear H'; refine a_do 0 rfl (by kernel_rfl) (by kernel_rfl) (by kernel_rfl) rfl rfl rfl (d_move rfl rfl) (H.pick 6 [0] rfl) (a_do 1 rfl (by kernel_rfl) (by kernel_rfl) (by kernel_rfl) rfl rfl rfl (d_field rfl (k := 3) (r := 3) (by kernel_rfl) rfl rfl) (H.pick 6 [0] rfl) (a_do 2 rfl (by kernel_rfl) (by kernel_rfl) (by kernel_rfl) rfl rfl rfl (d_load rfl rfl (by kernel_rfl) (fun _ hx => hx.cel 0 rfl 3 rfl)) (H.pick 6 [0] rfl) (a_do 3 rfl (by kernel_rfl) (by kernel_rfl) (by kernel_rfl) rfl rfl rfl (d_field rfl (k := 4) (r := 4) (by kernel_rfl) rfl rfl) (H.pick 6 [0] rfl) (a_do 4 rfl (by kernel_rfl) (by kernel_rfl) (by kernel_rfl) rfl rfl rfl (d_load rfl rfl (by kernel_rfl) (fun _ hx => hx.cel 0 rfl 4 rfl)) (H.pick 6 [0] rfl) (a_all [5] (by kernel_rfl) (by simp) (all1 (o_C rfl rfl rfl rfl rfl rfl (fun w => Tryz.call20 _ w) (page7_c _) H rfl ?_))))))); rintro _ w _ ⟨pb10, rfl, rfl⟩ H'; have H := H'.l7; clear H'; refine a_and (H.pick 7 [1] rfl) (a_all [6] (by kernel_rfl) (by simp) (all1 (o_C rfl rfl rfl rfl rfl rfl (fun w => Tryz.call19 _ w) (write_x _ _ _ _ _ _ (by omega) _ (pgF 5 dm.k4) (pgF_ok _ (by omega)) _ rfl _ (fun h q => blk_rd0 q (by rw [List.length_map]; exact pgF_len _ _))) H.f2 rfl ?_))); rintro _ w _ (⟨hout, rfl, rfl⟩ | ⟨n_, hn_, hlt_, rfl, rfl⟩) H'
       ·have H := H'.l7; clear H'; refine a_and (H.pick 7 [2] rfl) (a_do 7 rfl (by kernel_rfl) (by kernel_rfl) (by kernel_rfl) rfl rfl rfl (d_assign rfl rfl) (H.pick 7 [2] rfl) (a_done (by kernel_rfl) (k_seq (k_seq (s_region (s_M 1 rfl rfl (s_C rfl rfl rfl rfl rfl (fun w => Tryz.call21 _ w) (commit_s _ _ _ _ _ _ (3 + 2 * i) fi (by omega)) H rfl ?_))))))); rintro _ w _ ⟨D2, G2, fi2, hn2, ⟨hM2, hns2⟩, hx2, rfl, rfl⟩ H'; have H := H'.l7; clear H'; refine s_M 1 rfl rfl (k_updA 113 (u := .bool (decide ((0 : Int) ≠ 0))) (v := .bool false) rfl (congrArg Value.bool (by decide)) (s_end (k_false rfl (k_skip (k_seq (s_region (s_M 2 rfl rfl (k_updA 115 (u := .bool (decide ((2 : Int) = 0))) (v := .bool false) rfl (congrArg Value.bool (by decide)) (s_end (k_false rfl (k_skip (k_seq (k_updA 8 (u := .int .i64 G.x.start) (v := .int .i64 G2.x.start) rfl (congrArg (Value.int .i64) (by first | exact hsl3.1.symm | exact (ht _ _ hsl3).1.symm | (rcases hx2 with e | e <;> rw [e] <;> rfl))) ?_))))))))))))); refine k_updA 9 (u := .int .i64 G.x.len) (v := .int .i64 G2.x.len) rfl (congrArg (Value.int .i64) (by first | exact hsl3.2.symm | exact (ht _ _ hsl3).2.1.symm | (rcases hx2 with e | e <;> rw [e] <;> rfl))) (s_region (s_M 1 rfl rfl (s_C rfl rfl rfl rfl rfl (fun w => Tryz.call13 _ w) (super_s ps pd D2 G2 none) H rfl ?_))); rintro _ w _ ⟨rfl, rfl⟩ H'; have H := H'.l7; clear H'; refine s_go rfl rfl rfl (n_alloc (P := Tryz.prog) H rfl (zs := [.int .i64 0, .int .i64 0, .int .i64 0, .int .i64 0, .int .i64 0, .int .i64 0, .int .i64 0]) (by kernel_rfl)) ?_
        rintro _ w ⟨b11, rfl, H'⟩; have H := H'.l8; clear H'; refine s_put rfl rfl (n_store 0 H rfl rfl rfl rfl (vs := [.int .i64 G2.x.gen, .int .i64 G2.x.epoch, .int .i64 G2.x.pages, .int .i64 G2.x.start, .int .i64 G2.x.len, .int .i64 G2.x.head, .int .i64 G2.x.seq]) rfl (by simp [u8, u32, Value.oneCell']) (by kernel_rfl) (by simp) (out := [.int .i64 G2.x.gen, .int .i64 G2.x.epoch, .int .i64 G2.x.pages, .int .i64 G2.x.start, .int .i64 G2.x.len, .int .i64 G2.x.head, .int .i64 G2.x.seq]) rfl) ?_; rintro w H'; have H := H'.l8; clear H'; refine s_end (k_seq (s_region (s_L 4 [3, 0] (mm1 (H.blk 0 rfl) mm0) rfl (by kernel_rfl) rfl (k_updA 128 (u := .bool (decide ((G2.x.start : Int) ≠ G2.x.start))) (v := .bool false) rfl (congrArg Value.bool (by simp)) (s_L 5 [4, 0] (mm1 (H.blk 0 rfl) mm0) rfl (by kernel_rfl) rfl (k_updA 133 (u := .bool (decide ((G2.x.len : Int) ≠ G2.x.len))) (v := .bool false) rfl (congrArg Value.bool (by simp)) (s_M 1 rfl rfl (s_end (k_false rfl (k_skip (s_region (s_M 1 rfl rfl (s_do rfl rfl rfl (d_add64 rfl rfl rfl (r := (i : Int) + 1) (by omega) (by omega)) ?_))))))))))))); refine s_M 1 rfl rfl (s_end ?_); replace H := H.f3.d.f2.d.d.f4.f1.f4.f4.f4; intro _ hF; refine ⟨⟨i + 1, D2, G2, t, a0, a1, fl⟩, (hF.cons (hF.cons (hF.cons (hF.cons (hF.cons (hF.cons (hF.cons (hF.cons hF.nil 10 _ _ rfl rfl) 6 _ _ rfl rfl) 5 _ _ rfl rfl) 4 _ _ rfl rfl) 0 _ _ rfl rfl) 9 _ _ rfl rfl) 8 _ _ rfl rfl) 11 _ _ rfl (by go_num)), ⟨H, ?_⟩, ?_⟩
        ·refine ⟨by omega, by first | exact fi.le (by omega) | exact fi3.le (by omega) | exact fi2.le (by omega), by first | exact hDn | exact hMv3.n.trans hDn | exact hn2.trans hDn, by first | exact hGp | exact hMv3.pages.trans hGp | (rcases hx2 with e | e <;> dsimp only <;> rw [e] <;> exact hGp), by first | exact ht | (intro s l e; cases e; done) | (intro s l e; cases e; have := sw_inv hok5 hGp; exact ⟨rfl, rfl, this⟩), ?_⟩; first | exact hfl | (dsimp only; rw [hMv3.M]; exact hfl) | (dsimp only; rw [hM2]; exact hfl) | (dsimp only; rw [hM2]; exact flP_set hfl _ _ _)
        ·(dsimp only; omega)
       ·have H := H'.l7; clear H'; refine a_and (H.pick 7 [2] rfl) (a_do 7 rfl (by kernel_rfl) (by kernel_rfl) (by kernel_rfl) rfl rfl rfl (d_assign rfl rfl) (H.pick 7 [2] rfl) (a_done (by kernel_rfl) (k_seq (k_seq (s_region (s_M 1 rfl rfl (s_C rfl rfl rfl rfl rfl (fun w => Tryz.call21 _ w) (commit_s _ _ _ _ _ _ (3 + 2 * i) fi (by omega)) H rfl ?_))))))); rintro _ w _ ⟨D2, G2, fi2, hn2, ⟨hM2, hns2⟩, hx2, rfl, rfl⟩ H'; have H := H'.l7; clear H'; refine s_M 1 rfl rfl (k_updA 113 (u := .bool (decide ((0 : Int) ≠ 0))) (v := .bool false) rfl (congrArg Value.bool (by decide)) (s_end (k_false rfl (k_skip (k_seq (s_region (s_M 2 rfl rfl (k_updA 115 (u := .bool (decide ((0 : Int) = 0))) (v := .bool true) rfl (congrArg Value.bool (by decide)) (s_end (k_true rfl (s_region (s_L 4 [3, 0, 4, 0] (mm1 (H.blk 2 rfl) mm0) rfl (by kernel_rfl) rfl (s_do rfl rfl rfl (d_to8 rfl (by kernel_rfl) rfl) ?_))))))))))))); refine s_do rfl rfl rfl (d_of8 rfl (by kernel_rfl) rfl) (s_do rfl rfl rfl (d_indexA (l := 16) rfl (z := 1) (j := n_) (r := n_) (by kernel_rfl) rfl rfl (by omega) (by omega) (by omega)) (s_put rfl rfl (n_store 4 H rfl rfl rfl rfl (vs := [.int .i64 ((byt dm.k4).toNat : Int)]) rfl (by simp [u8, u32, Value.oneCell']) (by kernel_rfl) (by rw [flL_len]; simp; omega) (out := (flL (upf fl n_ ((byt dm.k4).toNat : Int)))) (flL_set _ _ (by omega))) ?_)); rintro w H'; have H := H'.l7; clear H'; refine s_end (k_seq (k_updA 8 (u := .int .i64 G.x.start) (v := .int .i64 G2.x.start) rfl (congrArg (Value.int .i64) (by first | exact hsl3.1.symm | exact (ht _ _ hsl3).1.symm | (rcases hx2 with e | e <;> rw [e] <;> rfl))) (k_updA 9 (u := .int .i64 G.x.len) (v := .int .i64 G2.x.len) rfl (congrArg (Value.int .i64) (by first | exact hsl3.2.symm | exact (ht _ _ hsl3).2.1.symm | (rcases hx2 with e | e <;> rw [e] <;> rfl))) (s_region (s_M 1 rfl rfl (s_C rfl rfl rfl rfl rfl (fun w => Tryz.call13 _ w) (super_s ps pd D2 G2 none) H rfl ?_))))))
        rintro _ w _ ⟨rfl, rfl⟩ H'; have H := H'.l7; clear H'; refine s_go rfl rfl rfl (n_alloc (P := Tryz.prog) H rfl (zs := [.int .i64 0, .int .i64 0, .int .i64 0, .int .i64 0, .int .i64 0, .int .i64 0, .int .i64 0]) (by kernel_rfl)) ?_; rintro _ w ⟨b12, rfl, H'⟩; have H := H'.l8; clear H'; refine s_put rfl rfl (n_store 0 H rfl rfl rfl rfl (vs := [.int .i64 G2.x.gen, .int .i64 G2.x.epoch, .int .i64 G2.x.pages, .int .i64 G2.x.start, .int .i64 G2.x.len, .int .i64 G2.x.head, .int .i64 G2.x.seq]) rfl (by simp [u8, u32, Value.oneCell']) (by kernel_rfl) (by simp) (out := [.int .i64 G2.x.gen, .int .i64 G2.x.epoch, .int .i64 G2.x.pages, .int .i64 G2.x.start, .int .i64 G2.x.len, .int .i64 G2.x.head, .int .i64 G2.x.seq]) rfl) ?_; rintro w H'; have H := H'.l8; clear H'; refine s_end (k_seq (s_region (s_L 4 [3, 0] (mm1 (H.blk 0 rfl) mm0) rfl (by kernel_rfl) rfl (k_updA 128 (u := .bool (decide ((G2.x.start : Int) ≠ G2.x.start))) (v := .bool false) rfl (congrArg Value.bool (by simp)) (s_L 5 [4, 0] (mm1 (H.blk 0 rfl) mm0) rfl (by kernel_rfl) rfl (k_updA 133 (u := .bool (decide ((G2.x.len : Int) ≠ G2.x.len))) (v := .bool false) rfl (congrArg Value.bool (by simp)) (s_M 1 rfl rfl (s_end (k_false rfl (k_skip (s_region (s_M 1 rfl rfl (s_do rfl rfl rfl (d_add64 rfl rfl rfl (r := (i : Int) + 1) (by omega) (by omega)) ?_))))))))))))); refine s_M 1 rfl rfl (s_end ?_); replace H := H.f3.d.f2.d.d.f4.f1.f4.f4.f4; intro _ hF; refine ⟨⟨i + 1, D2, G2, t, a0, a1, (upf fl n_ ((byt dm.k4).toNat : Int))⟩, (hF.cons (hF.cons (hF.cons (hF.cons (hF.cons (hF.cons (hF.cons (hF.cons hF.nil 10 _ _ rfl rfl) 6 _ _ rfl rfl) 5 _ _ rfl rfl) 4 _ _ rfl rfl) 0 _ _ rfl rfl) 9 _ _ rfl rfl) 8 _ _ rfl rfl) 11 _ _ rfl (by go_num)), ⟨H, ?_⟩, ?_⟩
        ·refine ⟨by omega, by first | exact fi.le (by omega) | exact fi3.le (by omega) | exact fi2.le (by omega), by first | exact hDn | exact hMv3.n.trans hDn | exact hn2.trans hDn, by first | exact hGp | exact hMv3.pages.trans hGp | (rcases hx2 with e | e <;> dsimp only <;> rw [e] <;> exact hGp), by first | exact ht | (intro s l e; cases e; done) | (intro s l e; cases e; have := sw_inv hok5 hGp; exact ⟨rfl, rfl, this⟩), ?_⟩; first | exact hfl | (dsimp only; rw [hMv3.M]; exact hfl) | (dsimp only; rw [hM2]; exact hfl) | (dsimp only; rw [hM2]; exact flP_set hfl _ _ _)
        ·(dsimp only; omega)
      ·refine k_skip (k_seq (s_region (s_M 1 rfl rfl (s_C rfl rfl rfl rfl rfl (fun w => Tryz.call13 _ w) (super_s ps pd D G none) H.f4 rfl ?_)))); rintro _ w _ ⟨rfl, rfl⟩ H'; have H := H'.l6; clear H'; refine s_go rfl rfl rfl (n_alloc (P := Tryz.prog) H rfl (zs := [.int .i64 0, .int .i64 0, .int .i64 0, .int .i64 0, .int .i64 0, .int .i64 0, .int .i64 0]) (by kernel_rfl)) ?_; rintro _ w ⟨b13, rfl, H'⟩; have H := H'.l7; clear H'; refine s_put rfl rfl (n_store 0 H rfl rfl rfl rfl (vs := [.int .i64 G.x.gen, .int .i64 G.x.epoch, .int .i64 G.x.pages, .int .i64 G.x.start, .int .i64 G.x.len, .int .i64 G.x.head, .int .i64 G.x.seq]) rfl (by simp [u8, u32, Value.oneCell']) (by kernel_rfl) (by simp) (out := [.int .i64 G.x.gen, .int .i64 G.x.epoch, .int .i64 G.x.pages, .int .i64 G.x.start, .int .i64 G.x.len, .int .i64 G.x.head, .int .i64 G.x.seq]) rfl) ?_; rintro w H'; have H := H'.l7; clear H'; refine s_end (k_seq (s_region (s_L 4 [3, 0] (mm1 (H.blk 0 rfl) mm0) rfl (by kernel_rfl) rfl (k_updA 128 (u := .bool (decide ((G.x.start : Int) ≠ G.x.start))) (v := .bool false) rfl (congrArg Value.bool (by simp)) (s_L 5 [4, 0] (mm1 (H.blk 0 rfl) mm0) rfl (by kernel_rfl) rfl (k_updA 133 (u := .bool (decide ((G.x.len : Int) ≠ G.x.len))) (v := .bool false) rfl (congrArg Value.bool (by simp)) (s_M 1 rfl rfl (s_end (k_false rfl (k_skip (s_region (s_M 1 rfl rfl (s_do rfl rfl rfl (d_add64 rfl rfl rfl (r := (i : Int) + 1) (by omega) (by omega)) ?_))))))))))))); refine s_M 1 rfl rfl (s_end ?_); replace H := H.f2.d.d.f4.f1.f4.f4.f4; intro _ hF; refine ⟨⟨i + 1, D, G, t, a0, a1, fl⟩, (hF.cons (hF.cons (hF.cons (hF.cons (hF.cons (hF.cons (hF.cons (hF.cons hF.nil 10 _ _ rfl rfl) 6 _ _ rfl rfl) 5 _ _ rfl rfl) 4 _ _ rfl rfl) 0 _ _ rfl rfl) 9 _ _ rfl rfl) 8 _ _ rfl rfl) 11 _ _ rfl (by go_num)), ⟨H, ?_⟩, ?_⟩
       ·refine ⟨by omega, by first | exact fi.le (by omega) | exact fi3.le (by omega) | exact fi2.le (by omega), by first | exact hDn | exact hMv3.n.trans hDn | exact hn2.trans hDn, by first | exact hGp | exact hMv3.pages.trans hGp | (rcases hx2 with e | e <;> dsimp only <;> rw [e] <;> exact hGp), by first | exact ht | (intro s l e; cases e; done) | (intro s l e; cases e; have := sw_inv hok5 hGp; exact ⟨rfl, rfl, this⟩), ?_⟩; first | exact hfl | (dsimp only; rw [hMv3.M]; exact hfl) | (dsimp only; rw [hM2]; exact hfl) | (dsimp only; rw [hM2]; exact flP_set hfl _ _ _)
       ·(dsimp only; omega)
  ·refine k_exit (k_here (k_seq (k_seq (s_region (s_M 1 rfl rfl (s_end (k_block ?_))))))); refine c_loop (σ := Nat) (fun n => [(18, .int .i64 (n : Int)), (4, .pointer (some ⟨ps, 0, none⟩)), (6, .pointer (some ⟨b1, 0, none⟩))])
     (fun n w => Sep z (blk b2 [.int .i64 a0, .int .i64 a1] 57 :: blk b1 (flL fl) 56 :: moA pm ps t :: stoA ps pd D G none :: A :: R) w ∧ (n ≤ 16)) (fun n => 16 - n) 0
     (fun _ hF => (hF.cons (hF.cons (hF.cons hF.nil 6 _ _ rfl rfl) 4 _ _ rfl rfl) 18 _ _ rfl (by go_num))) ⟨H, by omega⟩ ?_
   clear H; rintro n w ⟨H', hI⟩; have H := H'.l5; clear H'; have hn_16 := hI; clear hI
   refine k_seq (k_seq (s_region (s_M 2 rfl rfl (s_end (k_dec rfl (fun h8 => ?_) (fun h8 => ?_))))))
   ·refine k_skip (k_seq (k_block (k_seq (s_region ?_)))); obtain ⟨ff, hfv, hff⟩ : ∃ ff : Int, (¬ fl n = -1 → fl n = ((byt ff).toNat : Int)) ∧ ((fl n = -1 ∧ G.M n = noPg) ∨ (¬ fl n = -1 ∧ G.M n = pgF 5 ff)) := by
      rcases hfl n (by omega) with ⟨e1, e2⟩ | ⟨f, e1, e2⟩
      · exact ⟨0, fun h => absurd e1 h, .inl ⟨e1, e2⟩⟩
      · exact ⟨f, fun _ => e1, .inr ⟨by omega, e2⟩⟩
    refine s_M 2 rfl rfl (s_C rfl rfl rfl rfl rfl (fun w => Tryz.call22 _ w) (read_p ps pd D G n (by omega) (by first | exact fi.clean.f1 | exact fi6.clean.f1) (fl n = -1) ff hff) H.f3 rfl ?_); rintro _ w _ (⟨hc_, rfl, rfl⟩ | ⟨hc_, g5, cap5, rest5, hcap5, rfl, rfl⟩) H'
    ·have H := H'.l5; clear H'; refine s_M 3 rfl rfl (s_go rfl rfl rfl (n_alloc (P := Tryz.prog) H rfl (zs := [.int .i64 0, .slice none 0 0]) (by kernel_rfl)) ?_); rintro _ w ⟨b14, rfl, H'⟩; have H := H'.l6; clear H'; refine s_put rfl rfl (n_store 0 H rfl rfl rfl rfl (vs := [.int .i64 0, .slice none 0 0]) rfl (by simp [u8, u32, Value.oneCell']) (by kernel_rfl) (by simp) (out := [.int .i64 0, .slice none 0 0]) rfl) ?_; rintro w H'; have H := H'.l6; clear H'; refine s_M 1 rfl rfl (s_end (k_seq (k_seq (s_region (s_M 2 rfl rfl (k_updA 146 (u := .bool (decide ((0 : Int) ≠ 0))) (v := .bool false) rfl (congrArg Value.bool (by decide)) (s_end (k_false rfl (k_skip (k_seq (q_region (Sep z _) (by kernel_rfl) (by kernel_rfl) H.drew (q_do rfl rfl rfl (d_move rfl rfl) (q_do rfl rfl rfl (d_indexA (l := 16) rfl (z := 1) (j := n) (r := n) (by kernel_rfl) rfl rfl rfl (by omega) (by omega)) ?_))))))))))))); refine q_do rfl rfl rfl (d_load rfl rfl (by kernel_rfl) (fun _ hx => hx.cel 3 rfl n (flL_get _ (by omega)))) (q_do rfl rfl rfl (d_lss rfl rfl rfl) (k_updA 150 (u := .bool (decide ((fl n : Int) < 0))) (v := .bool true) rfl (congrArg Value.bool (decide_eq_true (by omega))) (q_do rfl rfl rfl (d_move rfl rfl) (q_do rfl rfl rfl (d_field rfl (k := 0) (r := 0) (by kernel_rfl) rfl rfl) (q_do rfl rfl rfl (d_load rfl rfl (by kernel_rfl) (fun _ hx => hx.cel 0 rfl 0 rfl)) (q_do rfl rfl rfl (d_neq rfl rfl rfl) (k_updA 154 (u := .bool (decide ((0 : Int) ≠ 0))) (v := .bool false) rfl (congrArg Value.bool (by decide)) (q_do rfl rfl rfl (d_pick_t rfl rfl rfl) (q_do rfl rfl rfl (d_move rfl rfl) (q_do rfl rfl rfl (d_move rfl rfl) (q_do rfl rfl rfl (d_indexA (l := 16) rfl (z := 1) (j := n) (r := n) (by kernel_rfl) rfl rfl rfl (by omega) (by omega)) (q_do rfl rfl rfl (d_load rfl rfl (by kernel_rfl) (fun _ hx => hx.cel 3 rfl n (flL_get _ (by omega)))) (q_do rfl rfl rfl (d_geq rfl rfl rfl) ?_)))))))))))))
     refine k_updA 160 (u := .bool (decide ((0 : Int) ≤ (fl n)))) (v := .bool false) rfl (congrArg Value.bool (decide_eq_false (by omega))) (q_do rfl rfl rfl (d_move rfl rfl) (q_skip rfl rfl rfl (q_skip rfl rfl rfl (q_skip rfl rfl rfl (q_skip rfl rfl rfl (q_skip rfl rfl rfl (q_skip rfl rfl rfl (q_skip rfl rfl rfl (q_skip rfl rfl rfl (q_skip rfl rfl rfl (q_skip rfl rfl rfl (q_skip rfl rfl rfl (q_skip rfl rfl rfl ?_))))))))))))); refine q_skip rfl rfl rfl (q_skip rfl rfl rfl (q_skip rfl rfl rfl (q_skip rfl rfl rfl (q_skip rfl rfl rfl (q_skip rfl rfl rfl (q_skip rfl rfl rfl (q_skip rfl rfl rfl (q_skip rfl rfl rfl (q_skip rfl rfl rfl (q_skip rfl rfl rfl (q_skip rfl rfl rfl (q_skip rfl rfl rfl (q_skip rfl rfl rfl ?_))))))))))))); refine q_do rfl rfl rfl (d_pick_f rfl rfl rfl) (q_do rfl rfl rfl (d_pick_f rfl rfl rfl) (q_end (fun w H' => ?_))); have H := H'.l6; clear H'; refine k_false rfl (k_skip (s_region (s_M 1 rfl rfl (s_do rfl rfl rfl (d_add64 rfl rfl rfl (r := (n : Int) + 1) (by omega) (by omega)) (s_M 1 rfl rfl (s_end ?_)))))); replace H := H.d.f4.f1.f4.f4.f4; intro _ hF; refine ⟨(n + 1), (hF.cons (hF.cons (hF.cons hF.nil 6 _ _ rfl rfl) 4 _ _ rfl rfl) 18 _ _ rfl (by go_num)), ⟨H, ?_⟩, ?_⟩
     ·omega
     ·omega
    ·have H := H'.l6; clear H'; refine s_M 3 rfl rfl (s_go rfl rfl rfl (n_alloc (P := Tryz.prog) H rfl (zs := [.int .i64 0, .slice none 0 0]) (by kernel_rfl)) ?_); rintro _ w ⟨b15, rfl, H'⟩; have H := H'.l7; clear H'; refine s_put rfl rfl (n_store 0 H rfl rfl rfl rfl (vs := [.int .i64 5, .slice (some ⟨g5, 0, none⟩) 240 cap5]) rfl (by simp [u8, u32, Value.oneCell']) (by kernel_rfl) (by simp) (out := [.int .i64 5, .slice (some ⟨g5, 0, none⟩) 240 cap5]) rfl) ?_; rintro w H'; have H := H'.l7; clear H'; refine s_M 1 rfl rfl (s_end (k_seq (k_seq (s_region (s_M 2 rfl rfl (k_updA 146 (u := .bool (decide ((0 : Int) ≠ 0))) (v := .bool false) rfl (congrArg Value.bool (by decide)) (s_end (k_false rfl (k_skip (k_seq (q_region (Sep z _) (by kernel_rfl) (by kernel_rfl) H.drew (q_do rfl rfl rfl (d_move rfl rfl) (q_do rfl rfl rfl (d_indexA (l := 16) rfl (z := 1) (j := n) (r := n) (by kernel_rfl) rfl rfl rfl (by omega) (by omega)) ?_))))))))))))); refine q_do rfl rfl rfl (d_load rfl rfl (by kernel_rfl) (fun _ hx => hx.cel 4 rfl n (flL_get _ (by omega)))) (q_do rfl rfl rfl (d_lss rfl rfl rfl) (k_updA 150 (u := .bool (decide ((fl n : Int) < 0))) (v := .bool false) rfl (congrArg Value.bool (decide_eq_false (by have := hfv hc_; omega))) (q_do rfl rfl rfl (d_move rfl rfl) (q_skip rfl rfl rfl (q_skip rfl rfl rfl (q_skip rfl rfl rfl (q_do rfl rfl rfl (d_pick_f rfl rfl rfl) (q_do rfl rfl rfl (d_move rfl rfl) (q_do rfl rfl rfl (d_move rfl rfl) (q_do rfl rfl rfl (d_indexA (l := 16) rfl (z := 1) (j := n) (r := n) (by kernel_rfl) rfl rfl rfl (by omega) (by omega)) (q_do rfl rfl rfl (d_load rfl rfl (by kernel_rfl) (fun _ hx => hx.cel 4 rfl n (flL_get _ (by omega)))) (q_do rfl rfl rfl (d_geq rfl rfl rfl) (k_updA 160 (u := .bool (decide ((0 : Int) ≤ (fl n)))) (v := .bool true) rfl (congrArg Value.bool (decide_eq_true (by have := hfv hc_; omega))) ?_)))))))))))))
     refine q_do rfl rfl rfl (d_move rfl rfl) (q_do rfl rfl rfl (d_field rfl (k := 1) (r := 1) (by kernel_rfl) rfl rfl) (q_do rfl rfl rfl (d_load rfl rfl (by kernel_rfl) (fun _ hx => hx.cel 0 rfl 1 rfl)) (q_do rfl rfl rfl (d_len rfl (z := 1) (by kernel_rfl) rfl) (q_do rfl rfl rfl (d_neq rfl rfl rfl) (k_updA 165 (u := .bool (decide ((240 : Int) ≠ 240))) (v := .bool false) rfl (congrArg Value.bool (by decide)) (q_do rfl rfl rfl (d_move rfl rfl) (q_do rfl rfl rfl (d_field rfl (k := 1) (r := 1) (by kernel_rfl) rfl rfl) (q_do rfl rfl rfl (d_load rfl rfl (by kernel_rfl) (fun _ hx => hx.cel 0 rfl 1 rfl)) (q_do rfl rfl rfl (d_index rfl (z := 1) (j := 0) (r := 0) (by kernel_rfl) rfl rfl rfl (by omega) (by omega)) (q_do rfl rfl rfl (d_load rfl rfl (by kernel_rfl) (fun _ hx => hx.cel 1 rfl 0 (pgF_get _ _ (by omega)))) (q_do rfl rfl rfl (d_move rfl rfl) (q_do rfl rfl rfl (d_indexA (l := 16) rfl (z := 1) (j := n) (r := n) (by kernel_rfl) rfl rfl rfl (by omega) (by omega)) (q_do rfl rfl rfl (d_load rfl rfl (by kernel_rfl) (fun _ hx => hx.cel 4 rfl n (flL_get _ (by omega)))) ?_))))))))))))); refine q_do rfl rfl rfl (d_to8 rfl (by kernel_rfl) rfl) (q_do rfl rfl rfl (d_neq8 (k := .u8) rfl (by kernel_rfl) rfl rfl) (k_updA 175 (u := .bool (decide (byt ff ≠ byt (fl n)))) (v := .bool false) rfl (congrArg Value.bool (decide_eq_false (by rw [hfv hc_, byt_of]; simp))) (q_do rfl rfl rfl (d_pick_f rfl rfl rfl) (q_do rfl rfl rfl (d_move rfl rfl) (q_do rfl rfl rfl (d_field rfl (k := 1) (r := 1) (by kernel_rfl) rfl rfl) (q_do rfl rfl rfl (d_load rfl rfl (by kernel_rfl) (fun _ hx => hx.cel 0 rfl 1 rfl)) (q_do rfl rfl rfl (d_index rfl (z := 1) (j := 239) (r := 239) (by kernel_rfl) rfl rfl rfl (by omega) (by omega)) (q_do rfl rfl rfl (d_load rfl rfl (by kernel_rfl) (fun _ hx => hx.cel 1 rfl 239 (pgF_get _ _ (by omega)))) (q_do rfl rfl rfl (d_move rfl rfl) (q_do rfl rfl rfl (d_indexA (l := 16) rfl (z := 1) (j := n) (r := n) (by kernel_rfl) rfl rfl rfl (by omega) (by omega)) (q_do rfl rfl rfl (d_load rfl rfl (by kernel_rfl) (fun _ hx => hx.cel 4 rfl n (flL_get _ (by omega)))) (q_do rfl rfl rfl (d_to8 rfl (by kernel_rfl) rfl) (q_do rfl rfl rfl (d_neq8 (k := .u8) rfl (by kernel_rfl) rfl rfl) ?_)))))))))))))
     refine k_updA 186 (u := .bool (decide (byt ff ≠ byt (fl n)))) (v := .bool false) rfl (congrArg Value.bool (decide_eq_false (by rw [hfv hc_, byt_of]; simp))) (q_do rfl rfl rfl (d_pick_f rfl rfl rfl) (q_do rfl rfl rfl (d_pick_t rfl rfl rfl) (q_do rfl rfl rfl (d_pick_f rfl rfl rfl) (q_end (fun w H' => ?_))))); have H := H'.l7; clear H'; refine k_false rfl (k_skip (s_region (s_M 1 rfl rfl (s_do rfl rfl rfl (d_add64 rfl rfl rfl (r := (n : Int) + 1) (by omega) (by omega)) (s_M 1 rfl rfl (s_end ?_)))))); replace H := H.f1.d.d.f4.f1.f4.f4.f4; intro _ hF; refine ⟨(n + 1), (hF.cons (hF.cons (hF.cons hF.nil 6 _ _ rfl rfl) 4 _ _ rfl rfl) 18 _ _ rfl (by go_num)), ⟨H, ?_⟩, ?_⟩
     ·omega
     ·omega
   ·refine k_exit (k_here (k_seq (s_region (s_M 1 rfl rfl (s_end (k_ret (doneL rfl [.bool true] ⟨rfl, trivial⟩ (v := .bool true) rfl ?_))))))); exact ⟨[A], ⟨rfl, rfl⟩, H.perm 5 [4] rfl rfl⟩
end Go.Proofs.YtbegkbjigbkljaaGreatDoor
namespace Go.Proofs.YtbegkbjigbkljaaGreatDoor
open Go.ChangeShapes Go.WideShapes Go.ChangeAt Go.RowKit Go.Joins
theorem own : ownKnob Tryz.prog.godebug = none := by kernel_rfl
theorem laidOut : laidOutB Tryz.prog = true := by kernel_rfl
theorem int_cells : Tryz.prog.cellsOf 3 = 1 := by kernel_rfl
theorem cel_base {W : World} {b o : Nat} {v : Value} (hc : Cel b o v W) : ∀ h, base W h → celH h b o v := fun h hb => by
  unfold Cel World.cell? at hc
  cases hh : W.heap[b]? with
  | none => rw [hh] at hc; simp at hc
  | some o' =>
    rw [hh] at hc
    cases o' with
    | cells cs ty fr =>
      simp at hc
      have hlt : b < W.heap.size := by
        rcases Nat.lt_or_ge b W.heap.size with q | q
        · exact q
        · rw [Array.getElem?_eq_none q] at hh; cases hh
      exact ⟨cs, ty, fr, (hb b hlt).trans hh, hc⟩
    | _ => simp at hc
theorem rd_base {sz : Nat} {v : Value} {n : Nat} {xs : List Value} {W : World} (r : Rd sz v n xs W) : ∀ h, base W h → rdH sz v n xs h := fun h hb => by
  obtain ⟨ao, c, e, h1, h2, h3, h4⟩ := r
  exact ⟨ao, c, e, h1, h2, h3, fun j u hj => by
    obtain ⟨b, p, e', hc⟩ := h4 j u hj
    exact ⟨b, p, e', cel_base hc h hb⟩⟩
theorem open_rdB {H : Type} {enc : TypeId × Value → H} {W : World} {fuel : Nat} {v : Value} {d : DataW H} {p : List MemPlace} (h : DataW.trod enc Tryz.prog W 0 (fun _ => true) true fuel 45 [v] = some (d, p)) : ∃ xs : List Int, Rd 1 v xs.length (xs.map (Value.int .i64)) W ∧ xs.length ≤ Rows.uptoBulk d := by
  have hall : ∀ (l : List Int), l.length ≤ Rows.uptoBulkAll (lits (H := H) .i64 l) := fun l => by
    induction l with
    | nil => simp
    | cons x l ih => simp only [lits, List.map_cons, Rows.uptoBulkAll, Rows.uptoBulk, List.length_cons] at ih ⊢; omega
  rcases open_ints Tryz.underlying45 Tryz.underlying3 int_cells h with ⟨hcs, hx⟩ | ⟨a, len, cap, zs, hcs, _, hl, hm, hz, hx, hcell, _⟩
  · simp only [List.cons.injEq, and_true] at hcs; subst hcs; exact ⟨[], by simpa using Rd.nil 1 W, by simp⟩
  · simp only [List.cons.injEq, and_true] at hcs; subst hcs
    simp only [if_true] at hz
    have hd : d = .slice (lits .i64 (zs.take len)) (lits .i64 (zs.drop len)) := by have := congrArg Prod.fst hx; simpa using this
    refine ⟨zs.take len, ⟨some a, cap, by simp [hz, Nat.min_eq_left hl], by simp [hz, Nat.min_eq_left hl, hl], (by unfold maxLen at hm; omega), by simp, fun j u hj => ?_⟩, ?_⟩
    · rw [List.getElem?_map] at hj
      obtain ⟨y, hy, rfl⟩ := Option.map_eq_some_iff.1 hj
      have hjl : j < len := by
        have := (List.getElem?_eq_some_iff.1 hy).1
        simp at this; omega
      have hy' : zs[j]? = some y := by rw [List.getElem?_take] at hy; simpa [hjl] using hy
      have hc := hcell j (by omega)
      rw [show zs.getD j 0 = y from by simp [List.getD, hy']] at hc
      obtain ⟨b, off, spot⟩ := a
      have hspot : spot = none := by
        have h0 := hcell 0 (by omega)
        simpa [Addr.add] using World.cell?_spot h0
      subst hspot
      exact ⟨b, off, rfl, by unfold Cel; rw [← Go.WideShapes.add_plain]; exact hc⟩
    · rw [hd]; have := hall (zs.take len); simp only [Rows.uptoBulk]; omega
theorem Cn.run {P : Program} {f : FuncId} {args : List Value} {W : World} {u : Value} (h : Cn P f args [base W] (fun v Γ => v = u ∧ Γ = [base W])) : Calls P f args.toArray W (Ret fun v W' => v = u ∧ Ext No W W') := by
  refine Ret.mono (h W [] W (by simpa using Sep.start W)) ?_
  rintro v W' ⟨Γ, ⟨rfl, rfl⟩, H⟩
  exact ⟨rfl, Sep.done 0 H rfl⟩
def flatW : DataW Unit → List Value
  | .lit (.int k n) => [.int k n]
  | .agg parts => flatWs parts
  | _ => []
where flatWs : List (DataW Unit) → List Value
  | [] => []
  | d :: ds => flatW d ++ flatWs ds
def lay1 : Obj → Obj
  | .cells c t frozen => .cells (if c.size = 32 then (flatW Rows.laid_unicode_utf8_acceptRanges).toArray else (flatW Rows.laid_unicode_utf8_first).toArray) t frozen
  | o => o
noncomputable def laidWorld (os : Os) : World :=
  { World.holding Tryz.prog os ⟨#[], #[], []⟩ with heap := ((World.holding Tryz.prog os ⟨#[], #[], []⟩).heap.modify 0 lay1).modify 1 lay1 }
theorem exists_list {α : Type} (P : Nat → α → Prop) : ∀ n, (∀ i, i < n → ∃ a, P i a) → ∃ l : List α, l.length = n ∧ ∀ i a, l[i]? = some a → P i a
  | 0, _ => ⟨[], rfl, fun i a h => by simp at h⟩
  | n + 1, h => by
    obtain ⟨l, hl, hp⟩ := exists_list P n (fun i hi => h i (by omega))
    obtain ⟨a, ha⟩ := h n (by omega)
    refine ⟨l ++ [a], by simp [hl], fun i b hb => ?_⟩
    rcases Nat.lt_or_ge i n with q | q
    · rw [List.getElem?_append_left (by omega)] at hb; exact hp i b hb
    · rw [List.getElem?_append_right (by omega)] at hb
      obtain rfl : i = n := by have := (List.getElem?_eq_some_iff.1 hb).1; simp at this; omega
      simp [hl] at hb; subst hb; exact ha
theorem wf_in {n : Int} (h : (Lit.int .i64 n).wf = true) : i64In n := by
  simp only [Lit.wf, Bool.and_eq_true, decide_eq_true_eq] at h
  have h1 : IntKind.i64.min = -9223372036854775808 := by decide
  have h2 : IntKind.i64.max = 9223372036854775807 := by decide
  rw [h1, h2] at h
  exact h
theorem bulk_one {H : Type} (d : DataW H) : 1 ≤ Rows.uptoBulk d := by
  cases d with
  | lit l => cases l <;> simp [Rows.uptoBulk]
  | nil => simp [Rows.uptoBulk]
  | ptr d => simp [Rows.uptoBulk]
  | slice elems spare => simp [Rows.uptoBulk]
  | agg parts => simp [Rows.uptoBulk]
  | iface t d => simp [Rows.uptoBulk]
  | map entries => simp [Rows.uptoBulk]
  | held h => simp [Rows.uptoBulk]
theorem bulk_len {H : Type} (l : List (DataW H)) : l.length ≤ Rows.uptoBulkAll l := by
  induction l with
  | nil => simp
  | cons x r ih => have := bulk_one x; simp only [Rows.uptoBulkAll, List.length_cons]; omega
theorem ro_cells : Tryz.prog.cellsOf 47 = 7 := by kernel_rfl
theorem open_ro {H : Type} {enc : TypeId × Value → H} {W : World} {fuel : Nat} {cs : List Value} {d : DataW H} {p : List MemPlace} (h : DataW.trod enc Tryz.prog W 0 (fun _ => true) true fuel 47 cs = some (d, p)) :
    ∃ e : RoE × List Int, cs = RoE.cells e.1 ∧ Rd 1 e.1.2 e.2.length (e.2.map (Value.int .i64)) W ∧ e.1.1.In := by
  obtain ⟨xs, n, rfl, hx, hl, hxl, hf⟩ := DataW.trod_struct Tryz.underlying47 h
  rw [ro_cells] at hl
  match cs, hl with
  | [c0, c1, c2, c3, c4, c5, c6], _ =>
    have f0 := hf 0 _ rfl
    have f1 := hf 1 _ rfl
    have f2 := hf 2 _ rfl
    have f3 := hf 3 _ rfl
    have f4 := hf 4 _ rfl
    have f5 := hf 5 _ rfl
    have f6 := hf 6 _ rfl
    match xs, hxl with
    | [y0, y1, y2, y3, y4, y5, y6], _ =>
      have k1 : Tryz.prog.cellsOf 45 = 1 := by kernel_rfl
      have kb : Tryz.prog.cellsOf 4 = 1 := by kernel_rfl
      try dsimp only at f0
      try simp only [int_cells, k1, kb, List.drop_zero, List.drop_succ_cons, List.take_succ_cons, List.take_zero, List.getElem?_cons_zero, List.getElem?_cons_succ] at f0
      try dsimp only at f1
      try simp only [int_cells, k1, kb, List.drop_zero, List.drop_succ_cons, List.take_succ_cons, List.take_zero, List.getElem?_cons_zero, List.getElem?_cons_succ] at f1
      try dsimp only at f2
      try simp only [int_cells, k1, kb, List.drop_zero, List.drop_succ_cons, List.take_succ_cons, List.take_zero, List.getElem?_cons_zero, List.getElem?_cons_succ] at f2
      try dsimp only at f3
      try simp only [int_cells, k1, kb, List.drop_zero, List.drop_succ_cons, List.take_succ_cons, List.take_zero, List.getElem?_cons_zero, List.getElem?_cons_succ] at f3
      try dsimp only at f4
      try simp only [int_cells, k1, kb, List.drop_zero, List.drop_succ_cons, List.take_succ_cons, List.take_zero, List.getElem?_cons_zero, List.getElem?_cons_succ] at f4
      try dsimp only at f5
      try simp only [int_cells, k1, kb, List.drop_zero, List.drop_succ_cons, List.take_succ_cons, List.take_zero, List.getElem?_cons_zero, List.getElem?_cons_succ] at f5
      try dsimp only at f6
      try simp only [int_cells, k1, kb, List.drop_zero, List.drop_succ_cons, List.take_succ_cons, List.take_zero, List.getElem?_cons_zero, List.getElem?_cons_succ] at f6
      obtain ⟨z0, e0, _, w0⟩ := DataW.trod_int Tryz.underlying3 f0
      obtain ⟨z1, e1, _, w1⟩ := DataW.trod_int Tryz.underlying3 f1
      obtain ⟨z2, e2, _, w2⟩ := DataW.trod_int Tryz.underlying3 f2
      obtain ⟨z3, e3, _, w3⟩ := DataW.trod_int Tryz.underlying3 f3
      obtain ⟨z4, e4, _, w4⟩ := DataW.trod_int Tryz.underlying3 f4
      obtain ⟨z5, e5, _⟩ := DataW.trod_bool Tryz.underlying4 f5
      obtain ⟨d6, p6⟩ := y6
      obtain ⟨ks, hr6, _⟩ := open_rdB (h := f6)
      have g0 := congrArg (fun l => l.headD .nilFunc) e0
      try simp at g0
      subst g0
      have g1 := congrArg (fun l => l.headD .nilFunc) e1
      try simp at g1
      subst g1
      have g2 := congrArg (fun l => l.headD .nilFunc) e2
      try simp at g2
      subst g2
      have g3 := congrArg (fun l => l.headD .nilFunc) e3
      try simp at g3
      subst g3
      have g4 := congrArg (fun l => l.headD .nilFunc) e4
      try simp at g4
      subst g4
      have g5 := congrArg (fun l => l.headD .nilFunc) e5
      try simp at g5
      subst g5
      exact ⟨((⟨z0, z1, z2, z3, z4, z5⟩, c6), ks), rfl, hr6, wf_in w0, wf_in w3⟩
theorem roC_inv : ∀ (es : List RoE) (k : Nat) (u : Value), (roC es)[k]? = some u → ∃ e, es[k / 7]? = some e ∧ (RoE.cells e)[k % 7]? = some u
  | [], k, u, h => by simp [roC] at h
  | x :: es, k, u, h => by
    have hl : (RoE.cells x).length = 7 := rfl
    simp only [roC, List.flatMap_cons] at h
    rcases Nat.lt_or_ge k 7 with q | q
    · rw [List.getElem?_append_left (by omega)] at h
      exact ⟨x, by rw [Nat.div_eq_of_lt q]; rfl, by rw [Nat.mod_eq_of_lt q]; exact h⟩
    · rw [List.getElem?_append_right (by omega), hl] at h
      obtain ⟨e, h1, h2⟩ := roC_inv es (k - 7) u h
      refine ⟨e, ?_, ?_⟩
      · rw [show k / 7 = (k - 7) / 7 + 1 from by omega]; simpa using h1
      · rw [show k % 7 = (k - 7) % 7 from by omega]; exact h2
theorem open_ros {H : Type} {enc : TypeId × Value → H} {W : World} {fuel : Nat} {v : Value} {d : DataW H} {p : List MemPlace} (h : DataW.trod enc Tryz.prog W 0 (fun _ => true) true fuel 22 [v] = some (d, p)) :
    ∃ es : Ros, Rd 7 v es.length (roC (es.map Prod.fst)) W ∧ (∀ e ∈ es, Rd 1 e.1.2 e.2.length (e.2.map (Value.int .i64)) W ∧ e.1.1.In) ∧ es.length ≤ Rows.uptoBulk d := by
  rcases DataW.trod_slice Tryz.underlying22 h with ⟨hcs, _⟩ | ⟨a, len, cap, elems, rest, n, rfl, hcs, hx, _, hlc, hcm, hel, hg, _, _⟩
  · simp only [List.cons.injEq, and_true] at hcs; subst hcs
    exact ⟨[], by simpa [roC] using Rd.nil 7 W, fun e he => absurd he (by simp), by simp⟩
  · simp only [List.cons.injEq, and_true] at hcs; subst hcs
    have hd : d = .slice (elems.map (·.1)) (rest.map (·.1)) := by have := congrArg Prod.fst hx; simpa using this
    obtain ⟨es, hes, hP⟩ := exists_list (fun i (e : RoE × List Int) => (∀ j, j < 7 → W.cell? ((a.add (i * 7)).add j) = (RoE.cells e.1)[j]?) ∧ Rd 1 e.1.2 e.2.length (e.2.map (Value.int .i64)) W ∧ e.1.1.In) len (fun i hi => by
      have hb := hg i hi
      rw [ro_cells] at hb
      obtain ⟨y, hy⟩ : ∃ y, elems[i]? = some y := ⟨_, List.getElem?_eq_getElem (by omega)⟩
      rw [hy, Option.bind_eq_some_iff] at hb
      obtain ⟨cs, hc, ht⟩ := hb
      obtain ⟨e, rfl, h1, h2⟩ := open_ro (d := y.1) (p := y.2) ht
      exact ⟨e, (World.cells?_some hc).2.2, h1, h2⟩)
    refine ⟨es, ⟨some a, cap, by rw [hes], by omega, (by unfold maxLen at hcm; omega), by rw [roC_len, List.length_map], fun k u hk => ?_⟩, fun e he => ?_, ?_⟩
    · obtain ⟨e0, h1', h2⟩ := roC_inv _ k u hk
      rw [List.getElem?_map, Option.map_eq_some_iff] at h1'
      obtain ⟨e, h1, rfl⟩ := h1'
      have hc := (hP _ e h1).1 (k % 7) (Nat.mod_lt _ (by omega))
      rw [h2] at hc
      obtain ⟨b, off, spot⟩ := a
      have hspot : spot = none := by
        have hlt := (List.getElem?_eq_some_iff.1 h1).1
        obtain ⟨e0, he0⟩ : ∃ e0, es[0]? = some e0 := ⟨_, List.getElem?_eq_getElem (by omega)⟩
        have hc0 := (hP _ e0 he0).1 0 (by omega)
        have h0 : W.cell? ⟨b, off, spot⟩ = some (.int .i64 e0.1.1.k0) := by simpa [Addr.add, RoE.cells] using hc0
        exact World.cell?_spot h0
      subst hspot
      refine ⟨b, off, rfl, ?_⟩
      unfold Cel
      have e2 : ((Addr.add ⟨b, off, none⟩ (k / 7 * 7)).add (k % 7)) = ⟨b, off + k, none⟩ := by
        rw [Go.WideShapes.add_plain, Go.WideShapes.add_plain]
        congr 1; omega
      rw [← e2]; exact hc
    · obtain ⟨i, hi⟩ := List.getElem?_of_mem he
      exact (hP i e hi).2
    · rw [hes, hd]
      have := bulk_len (elems.map (·.1))
      simp only [Rows.uptoBulk, List.length_map] at this ⊢; omega
section
variable {H : Type} {enc : TypeId × Value → H} {P : Program} {w : World} {base : Nat} {spare : Nat → Bool} {held : Bool}
theorem trod1 {t0 : TypeId} {args : Array Value} {ds : List (DataW H)} {ps : List MemPlace} (h : DataW.TrodAll enc P w base spare held [t0] args.toList ds ps) :
    ∃ v0 d0 p0, args = #[v0] ∧ ds = [d0] ∧ ps = p0 ∧ DataW.Trod enc P w base spare held t0 v0 d0 p0 := by
  obtain ⟨v0, vs0, d0, ds0, p0, q0, hargs, rfl, rfl, hd0, hr0⟩ := trodAll_cons h
  obtain ⟨rfl, rfl, rfl⟩ := trodAll_nil hr0
  exact ⟨v0, d0, p0, by cases args; simp_all, rfl, by simp, hd0⟩
theorem trodmk1 {t0 : TypeId} {v0 : Value} {d0 : DataW H} {p0 : List MemPlace} (h0 : DataW.Trod enc P w base spare held t0 v0 d0 p0) : DataW.TrodAll enc P w base spare held [t0] [v0] [d0] (p0) :=
  (trodAll_mk1 h0)
end
section
variable {H : Type} {enc : TypeId × Value → H} {P : Program} {w : World} {base : Nat} {spare : Nat → Bool} {held : Bool}
end
end Go.Proofs.YtbegkbjigbkljaaGreatDoor
namespace Go.Proofs.YtbegkbjigbkljaaGreatDoor
open Go.ChangeShapes Go.WideShapes Go.ChangeAt Go.RowKit Go.Joins
theorem rke_met (os : Os) : laidMet Tryz.prog Rows.relogKeepsUptoRow.laid ((laidWorld os).forCall (fun _ _ => 0) ⟨#[], #[.slice none 0 0], []⟩).memory :=
  laidMet_of_run' 8 (by kernel_rfl) (by kernel_rfl)
theorem rke_reads (os : Os) {H : Type} (enc : TypeId × Value → H) : ∃ places, DataW.whole enc Tryz.prog ((laidWorld os).forCall (fun _ _ => 0) ⟨#[], #[.slice none 0 0], []⟩).memory Tryz.f4.params.toList Rows.relogKeepsSpec.vars false #[Value.slice none 0 0].toList 8 = some ([.nil], [], places) :=
  ⟨[], by kernel_rfl⟩
theorem rke_contract (H : Type) (enc : TypeId × Value → H) (W : World) (base : Nat) (args : Array Value) (ds gs : List (DataW H)) (before : List MemPlace)
    (hval : ∀ (j : Nat) t v, Tryz.f4.params[j]? = some t → args[j]? = some v → Value.okWide Tryz.prog W .any base t v)
    (hW : DataW.Whole enc Tryz.prog Tryz.f4.params.toList Rows.relogKeepsSpec.vars false W args.toList ds gs before) (hk : Rows.uptoSmall H (ds ++ gs) = true) :
    Calls Tryz.prog 4 args W fun e W' => ∃ v, e = .returned v ∧ Rows.relogKeepsSpec.post enc Tryz.prog Tryz.f4 false true false false W args v W' := by
  have hW0 := hW
  obtain ⟨p, q, hA0, hV, rfl, _, _⟩ := hW
  have hA : DataW.TrodAll enc Tryz.prog W 0 (fun _ => true) true Tryz.f4.params.toList args.toList ds p := hA0
  rw [Tryz.params4] at hA hval
  obtain ⟨v0, d0, p0, rfl, rfl, rfl, h0⟩ := trod1 hA
  obtain ⟨rfl, rfl⟩ := trodVars_none hV
  simp only [List.append_nil] at hW0 hk
  have t0 : ∀ x ∈ p, x.block < W.heap.size := fun x hx => by have := hW0.lt x (by simp [hx]); simpa using this
  have hb : Rows.uptoBulkAll [d0] ≤ 1048576 := of_decide_eq_true hk
  simp only [Rows.uptoBulkAll] at hb
  obtain ⟨ao0, l0, c0, rfl⟩ := okWide_slice Tryz.underlying22 (hval 0 22 v0 rfl rfl)
  obtain ⟨fuel0, hf0⟩ := id h0
  obtain ⟨es0, hr0, hes0, hlen0⟩ := open_ros (h := hf0)
  refine (Cn.run (relogKeeps_c _ es0 (by omega) (YtbegkbjigbkljaaGreatDoor.base W) (fun h hh => ⟨rd_base hr0 h hh, fun e he => ⟨rd_base (hes0 e he).1 h hh, (hes0 e he).2⟩⟩))).mono fun e W' hR => ?_
  obtain ⟨u, rfl, rfl, x⟩ : ∃ u, e = Ending.returned u ∧ u = .bool true ∧ Ext No W W' := by cases e <;> first | exact ⟨_, rfl, hR⟩ | exact hR.elim
  exact ⟨_, rfl, _, _, _, [], _, [], hW0, trodAll_mk1 (shut_bool Tryz.underlying4 true), trodmk1 (Below.trod laidOut (by kernel_rfl) (of_decide_eq_true (by kernel_rfl)) h0 x.below t0), rfl, x.below.frame _, fun h => by cases h⟩
theorem rke_lifted (os : Os) (started : os.Started) (H : Type) (enc : TypeId × Value → H) (F : Stop.Interp) :
    ReturnsInHanded {} Tryz.checked os 4 .any ((Rows.OpenSpec.upto Rows.relogKeepsSpec).preRow enc Tryz.prog Tryz.f4 Rows.relogKeepsUptoRow.domain false Rows.relogKeepsUptoRow.laid) (((Rows.OpenSpec.upto Rows.relogKeepsSpec).at F).post enc Tryz.prog Tryz.f4 false true false false) := by
  obtain ⟨places, hx⟩ := rke_reads os enc
  refine returnsInHanded_of_row (C := Tryz.checked) (s := Rows.OpenSpec.upto Rows.relogKeepsSpec) own started (by kernel_rfl) Tryz.func4
    (witness_row_at (enc := enc) (C := Tryz.checked) false (laidWorld os) #[.slice none 0 0] rfl (by kernel_rfl) (by kernel_rfl) (by kernel_rfl)
      (OpenSpec.preRow_of_cond 8 hx (by kernel_rfl) (fun k hk => by cases hk; kernel_rfl) (by kernel_rfl) (rke_met os))) ?_
  intro W base args ds gs before hval hW _ hcond _ _ _ _
  exact rke_contract H enc W base args ds gs before hval hW (hcond _ rfl)
theorem rke_said : Rows.RelogKeepsUptoSaid :=
  OpenClaim.holds_of_cond 4 Tryz.f4 rfl rfl rfl rfl rfl rfl rfl ⟨rfl, rfl, rfl, rfl, rfl⟩ rfl rfl rfl rfl rfl (by kernel_rfl) Tryz.func4 (by kernel_rfl)
    (of_decide_eq_true (by kernel_rfl)) (by unfold Func.isWrapper; first | (rw [if_pos (by decide +kernel)]; kernel_rfl) | (rw [if_neg (by decide +kernel)]; exact ⟨rfl, rfl⟩))
    (fun os started H enc _ F => by rw [OpenClaim.pre_eq_preRow]; exact rke_lifted os started H enc F)
theorem rke_plain (f : FuncId) (fn : Func) (hf : Tryz.pinned.checked.prog.funcNamed "polder/polderlaw07.RelogKeeps" = some f) (hfn : Tryz.pinned.checked.prog.funcs[f]? = some fn) :
    false = Tryz.pinned.checked.prog.looks [] ∧ ∀ (j : Nat) t, fn.params[j]? = some t → Tryz.pinned.checked.prog.wantsStandIn t = false := by
  obtain rfl : f = 4 := Option.some.inj ((show Tryz.prog.funcNamed "polder/polderlaw07.RelogKeeps" = some 4 by kernel_rfl).symm.trans hf) |>.symm
  obtain rfl : fn = Tryz.f4 := (Option.some.inj (Tryz.func4.symm.trans hfn)).symm
  refine ⟨by kernel_rfl, fun j t ht => ?_⟩
  rw [Tryz.params4] at ht
  have hm := Array.mem_of_getElem? ht
  simp at hm
  subst hm
  exact (show Tryz.prog.wantsStandIn 22 = false by kernel_rfl)
theorem relogKeeps_holds : Rows.RelogKeepsUptoCardSaid :=
  Claim7.holds_tied_plain_at .later [] _ _ _ _ rke_said (fun _ h => by cases h) (by kernel_rfl) (fun _ h => by cases h) relogKeepsUpto_row_tie rfl ⟨rfl, rfl⟩ (by kernel_rfl) rfl rke_plain (by kernel_rfl)
end Go.Proofs.YtbegkbjigbkljaaGreatDoor
