/-
  The law RelogCrash holds: a crash in the middle of a move leaves the log where it was or where it was asked to, and all that was synced. No condition.
-/
import Derived.Test.YtbegkbjigbkljaaGreatDoorPart4
import Derived.Test.YtbegkbjigbkljaaGreatDoorCards
import Derived.Test.YtbegkbjigbkljaaGreatDoorTie
import Derived.WalkKit
import Derived.WalkSpells
import Derived.Deep.Quiet
import Derived.KernelRfl
import Derived.IntWalk
import Derived.Maps.AppendAt
import Derived.Laws.AppendOwnNone
import Derived.Laws.CopyRow
import Derived.StillTail
import Derived.Deep.RegionHeld
import Derived.Laws.IdiomStrings
import Derived.Laws.BytesArg
import Derived.Laws.OwnMore
import Derived.Lib.Strings
import Derived.ArgAppend
import Derived.RangeFuncLeaves
import Derived.RangeFuncRecord
import Derived.RangeFuncCalls
import Derived.RangeFuncSeq
import Derived.OrdersIn
import Derived.TacticsIn
import Derived.Laws.IdiomRangeMap
import Derived.Defers
import Derived.Laws.LoneSync
import Derived.LoopN
import Derived.Test.YtbegkbjigbkljaaGreatDoorRows
import Derived.Test.YtbegkbjigbkljaaGreatDoorProg
import Derived.Shelf.Sort.Plain
import Derived.Shelf.Slices.In.SortNone
import Derived.DataReads
import Derived.ProofKit
import Derived.OpenShut
import Derived.Lib.SmallJoins
import Derived.Deep.DeepHandedRow
import Derived.Lib.LaidTab
set_option maxRecDepth 100000
set_option linter.unusedSimpArgs false
set_option linter.unusedVariables false
namespace Go.Proofs.YtbegkbjigbkljaaGreatDoor
open Go.RowKit
theorem OInv.two {D : Dsk} {x : Sup} {B : Nat → Pg} {Gd : List Rc → Prop} (h : OInv D x B Gd) : ∃ y0 y1 : Sup, y0.Ok (D.n : Int) ∧ y1.Ok (D.n : Int) ∧ y0.gen % 2 = 0 ∧ y1.gen % 2 = 1 ∧ D.cont 0 = supS y0 ∧ D.cont 1 = supS y1 ∧ x = if y0.gen < y1.gen then y1 else y0 := by
  obtain ⟨y, hy, hg, hd⟩ := h.oth
  have hs := h.sup
  have h1 := h.gen
  have c0 := cont_of (h.ver 0)
  have c1 := cont_of (h.ver 1)
  rcases (show x.gen % 2 = 0 ∨ x.gen % 2 = 1 by omega) with e | e
  · rw [show (x.gen % 2).toNat = 0 by omega] at hs
    rw [show ((x.gen + 1) % 2).toNat = 1 by omega] at hd
    exact ⟨x, y, h.ok, hy, e, by omega, c0.trans hs, c1.trans hd, by rw [if_neg (by omega)]⟩
  · rw [show (x.gen % 2).toNat = 1 by omega] at hs
    rw [show ((x.gen + 1) % 2).toNat = 0 by omega] at hd
    exact ⟨y, x, hy, h.ok, by omega, e, c0.trans hd, c1.trans hs, by rw [if_pos (by omega)]⟩
theorem opS_ok {x : Sup} {n : Int} (h : x.Ok n) (h1 : 1 ≤ x.gen) (hg : x.gen + 1 ≤ 1099511627776) (he : x.epoch + 1 ≤ 1099511627776) : (opS x).Ok n := by
  have hs := Sup.get h
  have hk := h.2
  have hf := opS_f x
  exact Sup.ok_mk (by omega) (by omega) (by omega) (by omega) (by omega) (by omega) (by omega) (by omega)
theorem ov_take_succ {rs : List Rc} {k : Nat} {r : Rc} (h : rs[k]? = some r) : ovI (ov (rs.take k)) r.ims = ov (rs.take (k + 1)) := by
  rw [List.take_add_one, h]
  exact (ov_snoc _ _).symm
theorem ovI_take_succ {f : Pgs} {ims : List Img} {k : Nat} {m : Img} (h : ims[k]? = some m) : pgSet (ovI f (ims.take k)) m.num.toNat (imPg m) = ovI f (ims.take (k + 1)) := by
  rw [List.take_add_one, h]
  exact (ovI_snoc _ _ _).symm
set_option maxHeartbeats 4000000 in
theorem sopen_c (pd : Nat) (D : Dsk) (x : Sup) (B : Nat → Pg) (Gd : List Rc → Prop) (hO : OInv D x B Gd) (hcl : Clean D) (hge : x.gen + 1 ≤ 1099511627776) (hep : x.epoch + 1 < 4294967296) : Cn Tryz.prog 26 [.pointer (some ⟨pd, 0, none⟩)] [diskA pd D] (fun v Γ => ∃ (ps pl pt md : Nat) (hq : Hp) (D2 : Dsk) (got : List Rc), Gd got ∧ SInv D2 (opS x) (pgMap (ov got) B) [] [] 0 1 0 false 0 ∧ Clean D2 ∧ D2.n = D.n ∧ (∀ i, D2.ver i = []) ∧ v = .tuple #[.pointer (some ⟨ps, 0, none⟩), .int .i64 0] ∧ Γ = [blk ps [.pointer (some ⟨pd, 0, none⟩), .pointer (some ⟨pt, 0, none⟩), .int .i64 ((opS x).gen), .int .i64 ((opS x).epoch), .int .i64 ((opS x).pages), .int .i64 ((opS x).start), .int .i64 ((opS x).len), .int .i64 ((opS x).head), .int .i64 ((opS x).seq), .pointer (some ⟨pl, 0, none⟩), .map (some md), .bool false, .map none] 108, blk pl [.pointer (some ⟨pd, 0, none⟩), .pointer (some ⟨pt, 0, none⟩), .int .i64 ((opS x).gen), .int .i64 ((opS x).epoch), .int .i64 ((opS x).pages), .int .i64 ((opS x).start), .int .i64 ((opS x).len), .int .i64 ((opS x).head), .int .i64 ((opS x).seq), .int .i64 0, .int .i64 1, .int .i64 0, .bool false, .bool (decide ((opS x).epoch < 4294967296))] 176, tblA pt, diskA pd D2, pgsA md noPgs hq, poolA hq]) := by
 intro z R w H'; have H : Sep z (diskA pd D :: R) w := H'
 clear H'; obtain ⟨y0, y1, ho0, ho1, hp0, hp1, hc0, hc1, hxy⟩ := hO.two; have hok := hO.ok
 have hsg := Sup.get hok
 have hk2 := hok.2
 have hgen := hO.gen
 have hoky : (opS x).Ok (D.n : Int) := opS_ok hok hgen (by omega) (by omega)
 have hn2d := H.says 0 rfl (fun h q => (diskA.ok q).n2)
 refine enter Tryz.func26 rfl 109 Tryz.ntmps26 rfl (k_seq (s_region (s_M 2 rfl rfl (s_end (k_seq (k_seq (s_region (s_M 1 rfl rfl (s_do rfl rfl rfl (d_eql_pn rfl (by kernel_rfl) rfl rfl) (s_end (k_false rfl (k_skip (k_seq ?_))))))))))))); refine s_region (s_M 1 rfl rfl (s_C rfl rfl rfl rfl rfl (fun w => Tryz.call63 _ w) (crcnew_c ) H rfl ?_)); rintro _ w _ ⟨pt, rfl, rfl⟩ H'; have H := H'.l2; clear H'; refine s_go rfl rfl rfl (n_makeMap H rfl) ?_; rintro _ w ⟨m1, rfl, H'⟩; have H := H'.l3; clear H'; refine s_do rfl rfl rfl (d_build rfl rfl (out := [.pointer (some ⟨pd, 0, none⟩), .pointer (some ⟨pt, 0, none⟩), .int .i64 0, .int .i64 0, .int .i64 0, .int .i64 0, .int .i64 0, .int .i64 0, .int .i64 0, .pointer none, .map (some m1), .bool false, .map none]) (by kernel_rfl)) (s_go rfl rfl rfl (n_box H rfl rfl (cs := [.pointer (some ⟨pd, 0, none⟩), .pointer (some ⟨pt, 0, none⟩), .int .i64 0, .int .i64 0, .int .i64 0, .int .i64 0, .int .i64 0, .int .i64 0, .int .i64 0, .pointer none, .map (some m1), .bool false, .map none]) rfl) ?_); rintro _ w ⟨b2, rfl, H'⟩; have H := H'.l4; clear H'; refine s_M 1 rfl rfl (s_end (k_seq (s_region (s_L 5 [1, 0] (mm1 (H.blk 0 rfl) mm0) rfl (by kernel_rfl) rfl (s_C rfl rfl rfl rfl rfl (fun w => Tryz.call64 _ w) (load_c _ _ _ hcl.f1 x y0 y1 ho0 ho1 hp0 hp1 hc0 hc1 hxy) H.f2.f3 rfl ?_))))); rintro _ w _ ⟨rfl, rfl⟩ H'; have H := H'.l4; clear H'; refine s_M 3 rfl rfl (s_go rfl rfl rfl (n_alloc (P := Tryz.prog) H rfl (zs := [.int .i64 0, .int .i64 0, .int .i64 0, .int .i64 0, .int .i64 0, .int .i64 0, .int .i64 0]) (by kernel_rfl)) ?_)
 rintro _ w ⟨b3, rfl, H'⟩; have H := H'.l5; clear H'; refine s_put rfl rfl (n_store 0 H rfl rfl rfl rfl (vs := [.int .i64 x.gen, .int .i64 x.epoch, .int .i64 x.pages, .int .i64 x.start, .int .i64 x.len, .int .i64 x.head, .int .i64 x.seq]) rfl (by simp [u8, u32, Value.oneCell']) (by kernel_rfl) (by simp) (out := [.int .i64 x.gen, .int .i64 x.epoch, .int .i64 x.pages, .int .i64 x.start, .int .i64 x.len, .int .i64 x.head, .int .i64 x.seq]) rfl) ?_; rintro w H'; have H := H'.l5; clear H'; refine s_M 1 rfl rfl (s_end (k_seq (k_seq (s_region (s_M 2 rfl rfl (k_updA 31 (u := .bool (decide ((0 : Int) ≠ 0))) (v := .bool false) rfl (congrArg Value.bool (by decide)) (s_end (k_false rfl (k_skip (k_seq (s_region (s_M 1 rfl rfl (s_do rfl rfl rfl (d_loadAgg rfl rfl (vs := [.int .i64 x.gen, .int .i64 x.epoch, .int .i64 x.pages, .int .i64 x.start, .int .i64 x.len, .int .i64 x.head, .int .i64 x.seq]) (by kernel_rfl) (here ((H.blk 0 rfl).part 0 7 _ rfl))) ?_))))))))))))); refine s_Q 2 [2] rfl (by kernel_rfl) (s_put rfl rfl (n_store 3 H rfl rfl rfl rfl (vs := [.int .i64 x.gen, .int .i64 x.epoch, .int .i64 x.pages, .int .i64 x.start, .int .i64 x.len, .int .i64 x.head, .int .i64 x.seq]) rfl (by simp [u8, u32, Value.oneCell']) (by kernel_rfl) (by simp) (out := [.pointer (some ⟨pd, 0, none⟩), .pointer (some ⟨pt, 0, none⟩), .int .i64 x.gen, .int .i64 x.epoch, .int .i64 x.pages, .int .i64 x.start, .int .i64 x.len, .int .i64 x.head, .int .i64 x.seq, .pointer none, .map (some m1), .bool false, .map none]) rfl) ?_); rintro w H'; have H := H'.l5; clear H'; refine s_end (k_seq ?_); replace H := H.f3; refine a_region (Sep z (blk b2 [.pointer (some ⟨pd, 0, none⟩), .pointer (some ⟨pt, 0, none⟩), .int .i64 x.gen, .int .i64 x.epoch, .int .i64 x.pages, .int .i64 x.start, .int .i64 x.len, .int .i64 x.head, .int .i64 x.seq, .pointer none, .map (some m1), .bool false, .map none] 108 :: blk b3 [.int .i64 x.gen, .int .i64 x.epoch, .int .i64 x.pages, .int .i64 x.start, .int .i64 x.len, .int .i64 x.head, .int .i64 x.seq] 49 :: R)) 14 rfl (by kernel_rfl) (fun w' x' _ => ?_)
 have H' := H.ext0 x'; clear x' H; revert H'; generalize w' = w; intro H'
 have H := H'.l5; clear H'; refine a_do 0 rfl (by kernel_rfl) (by kernel_rfl) (by kernel_rfl) rfl rfl rfl (d_move rfl rfl) (H.pick 5 [0, 1] rfl) (a_do 1 rfl (by kernel_rfl) (by kernel_rfl) (by kernel_rfl) rfl rfl rfl (d_move rfl rfl) (H.pick 5 [0, 1] rfl) (a_do 2 rfl (by kernel_rfl) (by kernel_rfl) (by kernel_rfl) rfl rfl rfl (d_nilCheck rfl rfl) (H.pick 5 [0, 1] rfl) (a_do 3 rfl (by kernel_rfl) (by kernel_rfl) (by kernel_rfl) rfl rfl rfl (d_field rfl (k := 1) (r := 1) (by kernel_rfl) rfl rfl) (H.pick 5 [0, 1] rfl) (a_do 4 rfl (by kernel_rfl) (by kernel_rfl) (by kernel_rfl) rfl rfl rfl (d_load rfl rfl (by kernel_rfl) (fun _ hx => hx.cel 0 rfl 1 rfl)) (H.pick 5 [0, 1] rfl) (a_do 5 rfl (by kernel_rfl) (by kernel_rfl) (by kernel_rfl) rfl rfl rfl (d_loadAgg rfl rfl (vs := [.int .i64 x.gen, .int .i64 x.epoch, .int .i64 x.pages, .int .i64 x.start, .int .i64 x.len, .int .i64 x.head, .int .i64 x.seq]) (by kernel_rfl) (fun _ hx => (hx.blk 1 rfl).part 0 7 _ rfl)) (H.pick 5 [0, 1] rfl) (a_all [6] (by kernel_rfl) (by simp) (all1 (o_C rfl rfl rfl rfl rfl rfl (fun w => Tryz.call65 _ w) (open_c _ _ x _ hok hcl.f1) H.f2.f3 rfl ?_)))))))); rintro _ w _ ⟨pl5, rs5, a5, q5, u5, v5, hq5, rfl, hruns5, hstop5, hrecs5, rfl⟩ H'; have H := H'.l7; clear H'; obtain ⟨ao2, c2, rfl⟩ := hrecs5.slc; obtain ⟨es2, hes2, hrd2, hok2⟩ := hrecs5; have hel2 : es2.length = rs5.length := by rw [← hes2]; simp
 have hgd := hO.read rs5 a5 q5 u5 hruns5 hstop5
 have hrc := hO.recs rs5 hgd
 have hsm2 := hrd2.small
 have hfbb : ∀ n, (ov rs5 n).isSome = true → n < 1024 := fun n h => by have := hO.ovb hgd h; omega
 have hfnn : ∀ n, (ov rs5 n).isSome = true → 2 + n < D.n := fun n h => by have := hO.ovb hgd h; omega
 have H : Sep z (poolA hq5 :: blk pl5 [.pointer (some ⟨pd, 0, none⟩), .pointer (some ⟨pt, 0, none⟩), .int .i64 x.gen, .int .i64 x.epoch, .int .i64 x.pages, .int .i64 x.start, .int .i64 x.len, .int .i64 x.head, .int .i64 x.seq, .int .i64 a5, .int .i64 q5, .int .i64 u5, .bool false, .bool (decide (x.epoch < 4294967296))] 176 :: tblA pt :: diskA pd D :: blk b2 [.pointer (some ⟨pd, 0, none⟩), .pointer (some ⟨pt, 0, none⟩), .int .i64 x.gen, .int .i64 x.epoch, .int .i64 x.pages, .int .i64 x.start, .int .i64 x.len, .int .i64 x.head, .int .i64 x.seq, .pointer none, .map (some m1), .bool false, .map none] 108 :: blk b3 [.int .i64 x.gen, .int .i64 x.epoch, .int .i64 x.pages, .int .i64 x.start, .int .i64 x.len, .int .i64 x.head, .int .i64 x.seq] 49 :: mapB m1 ([]) 0 :: R) w := H
 refine a_and (H.pick 7 [4, 5] rfl) (a_do 7 rfl (by kernel_rfl) (by kernel_rfl) (by kernel_rfl) rfl rfl rfl (d_move rfl rfl) (H.pick 7 [4, 5] rfl) (a_do 8 rfl (by kernel_rfl) (by kernel_rfl) (by kernel_rfl) rfl rfl rfl (d_extract rfl rfl rfl) (H.pick 7 [4, 5] rfl) (a_do 9 rfl (by kernel_rfl) (by kernel_rfl) (by kernel_rfl) rfl rfl rfl (d_extract rfl rfl rfl) (H.pick 7 [4, 5] rfl) (a_do 10 rfl (by kernel_rfl) (by kernel_rfl) (by kernel_rfl) rfl rfl rfl (d_extract rfl rfl rfl) (H.pick 7 [4, 5] rfl) (a_do 11 rfl (by kernel_rfl) (by kernel_rfl) (by kernel_rfl) rfl rfl rfl (d_assign rfl rfl) (H.pick 7 [4, 5] rfl) (a_do 12 rfl (by kernel_rfl) (by kernel_rfl) (by kernel_rfl) rfl rfl rfl (d_assign rfl rfl) (H.pick 7 [4, 5] rfl) (a_do 13 rfl (by kernel_rfl) (by kernel_rfl) (by kernel_rfl) rfl rfl rfl (d_assign rfl rfl) (H.pick 7 [4, 5] rfl) (a_done (by kernel_rfl) (k_seq (k_seq (s_region (s_M 2 rfl rfl (k_updA 49 (u := .bool (decide ((0 : Int) ≠ 0))) (v := .bool false) rfl (congrArg Value.bool (by decide)) ?_))))))))))))); refine s_end (k_false rfl (k_skip (k_seq (s_region (s_L 2 [0, 0] (mm1 (H.blk 5 rfl) mm0) rfl (by kernel_rfl) rfl (s_do rfl rfl rfl (d_add64 rfl rfl rfl (r := x.gen + 1) (by omega) (by omega)) (s_Q 1 [0] rfl (by kernel_rfl) (s_put rfl rfl (n_store 5 H rfl rfl rfl rfl (vs := [.int .i64 (x.gen + 1)]) rfl (by simp [u8, u32, Value.oneCell']) (by kernel_rfl) (by simp) (out := [.int .i64 (x.gen + 1), .int .i64 x.epoch, .int .i64 x.pages, .int .i64 x.start, .int .i64 x.len, .int .i64 x.head, .int .i64 x.seq]) rfl) ?_)))))))); rintro w H'; have H := H'.l7; clear H'; refine s_end (k_seq (s_region (s_L 2 [1, 0] (mm1 (H.blk 5 rfl) mm0) rfl (by kernel_rfl) rfl (s_do rfl rfl rfl (d_add64 rfl rfl rfl (r := x.epoch + 1) (by omega) (by omega)) (s_Q 1 [1] rfl (by kernel_rfl) (s_put rfl rfl (n_store 5 H rfl rfl rfl rfl (vs := [.int .i64 (x.epoch + 1)]) rfl (by simp [u8, u32, Value.oneCell']) (by kernel_rfl) (by simp) (out := [.int .i64 (x.gen + 1), .int .i64 (x.epoch + 1), .int .i64 x.pages, .int .i64 x.start, .int .i64 x.len, .int .i64 x.head, .int .i64 x.seq]) rfl) ?_))))))
 rintro w H'; have H := H'.l7; clear H'; refine s_end (k_seq (k_seq (s_region (s_L 4 [0, 0] (mm1 (H.blk 5 rfl) mm0) rfl (by kernel_rfl) rfl (s_part 62 rfl (fun h1 => ?_) (fun h1 => ?_))))))
 ·(exfalso; omega)
 ·refine s_L 4 [1, 0] (mm1 (H.blk 5 rfl) mm0) rfl (by kernel_rfl) rfl (s_end (k_dec rfl (fun h2 => ?_) (fun h2 => ?_)))
  ·(exfalso; omega)
  ·refine k_skip (k_seq (k_seq (s_region (s_M 1 rfl rfl (s_do rfl rfl rfl (d_len rfl (z := 2) (by kernel_rfl) rfl) (s_M 1 rfl rfl (s_end (k_block ?_)))))))); refine c_loop (σ := Nat × List PgE × Nat) (fun ⟨k, es, cl⟩ => [(69, .int .i64 (k : Int)), (0, .pointer (some ⟨pd, 0, none⟩)), (2, .pointer none), (3, .int .i64 0), (4, .pointer (some ⟨b2, 0, none⟩)), (5, .pointer (some ⟨b3, 0, none⟩)), (67, .slice ao2 rs5.length c2), (68, .int .i64 (rs5.length : Int))])
     (fun ⟨k, es, cl⟩ w => Sep z (poolA hq5 :: blk pl5 [.pointer (some ⟨pd, 0, none⟩), .pointer (some ⟨pt, 0, none⟩), .int .i64 x.gen, .int .i64 x.epoch, .int .i64 x.pages, .int .i64 x.start, .int .i64 x.len, .int .i64 x.head, .int .i64 x.seq, .int .i64 a5, .int .i64 q5, .int .i64 u5, .bool false, .bool (decide (x.epoch < 4294967296))] 176 :: tblA pt :: diskA pd D :: blk b2 [.pointer (some ⟨pd, 0, none⟩), .pointer (some ⟨pt, 0, none⟩), .int .i64 x.gen, .int .i64 x.epoch, .int .i64 x.pages, .int .i64 x.start, .int .i64 x.len, .int .i64 x.head, .int .i64 x.seq, .pointer none, .map (some m1), .bool false, .map none] 108 :: blk b3 [.int .i64 (x.gen + 1), .int .i64 (x.epoch + 1), .int .i64 x.pages, .int .i64 x.start, .int .i64 x.len, .int .i64 x.head, .int .i64 x.seq] 49 :: mapB m1 (es.map PgE.ie) cl :: R) w ∧ (k ≤ rs5.length ∧ PgsIn (ov (rs5.take k)) es cl hq5)) (fun ⟨k, es, cl⟩ => rs5.length - k) ⟨0, [], 0⟩
     (fun _ hF => (hF.cons (hF.cons (hF.cons (hF.cons (hF.cons (hF.cons (hF.cons (hF.cons hF.nil 68 _ _ rfl rfl) 67 _ _ rfl rfl) 5 _ _ rfl rfl) 4 _ _ rfl rfl) 3 _ _ rfl rfl) 2 _ _ rfl rfl) 0 _ _ rfl rfl) 69 _ _ rfl (by go_num))) ⟨H, by omega, PgsIn.none _ _⟩ ?_
   clear H; rintro ⟨k, es, cl⟩ w ⟨H', hI⟩; dsimp only at hI H' ⊢
   have H := H'.l7; clear H'; obtain ⟨hkr, hpgo⟩ := hI; refine k_seq (s_region (s_M 1 rfl rfl (s_end (k_seq (k_dec rfl (fun h3 => ?_) (fun h3 => ?_))))))
   ·refine k_skip (k_seq (k_block (k_seq (s_region ?_)))); obtain ⟨⟨rc, w1⟩, hg1⟩ : ∃ e : RcE, es2[k]? = some e := ⟨_, List.getElem?_eq_getElem (by omega)⟩; have hrk : rs5[k]? = some rc := by rw [← hes2]; simp [hg1]
    obtain ⟨is1, hs1, hri1, hki1⟩ := hok2 _ (List.mem_of_getElem? hg1); dsimp only at hs1 hri1
    obtain ⟨ao3, c3, rfl⟩ := hri1.slc; have hil1 : is1.length = rc.ims.length := by rw [← hs1]; simp
    have hsm3 := hri1.small
    have hrcm := hrc _ (List.mem_of_getElem? hrk)
    have hat1 := (H.rd 0 rfl (fun h q => hrd2.le q)).at (rcC_get hg1 0 _ rfl)
    refine s_do rfl rfl rfl (d_indexE rfl (z := 2) (j := k) (r := k * 2) (by kernel_rfl) rfl rfl rfl (by omega) hat1 (by omega)) (s_do rfl rfl rfl (d_loadAggE rfl rfl (vs := [.int .i64 rc.seq, .slice ao3 rc.ims.length c3]) (by kernel_rfl) (by simp) (here (fun k u hk => (H.rd 0 rfl (fun h q => hrd2.le q)).at (rcC_get hg1 k u hk)))) (s_go rfl rfl rfl (n_alloc (P := Tryz.prog) H rfl (zs := [.int .i64 0, .slice none 0 0]) (by kernel_rfl)) ?_)); rintro _ w ⟨b4, rfl, H'⟩; have H := H'.l8; clear H'; refine s_put rfl rfl (n_store 0 H rfl rfl rfl rfl (vs := [.int .i64 rc.seq, .slice ao3 rc.ims.length c3]) rfl (by simp [u8, u32, Value.oneCell']) (by kernel_rfl) (by simp) (out := [.int .i64 rc.seq, .slice ao3 rc.ims.length c3]) rfl) ?_; rintro w H'; have H := H'.l8; clear H'; refine s_end (k_seq (s_region (s_L 2 [1, 0] (mm1 (H.blk 0 rfl) mm0) rfl (by kernel_rfl) rfl (s_do rfl rfl rfl (d_len rfl (z := 3) (by kernel_rfl) rfl) (s_M 1 rfl rfl (s_end (k_block ?_))))))); refine c_loop (σ := Nat × List PgE × Nat) (fun ⟨j, ei, ci⟩ => [(76, .int .i64 (j : Int)), (0, .pointer (some ⟨pd, 0, none⟩)), (2, .pointer none), (3, .int .i64 0), (4, .pointer (some ⟨b2, 0, none⟩)), (5, .pointer (some ⟨b3, 0, none⟩)), (10, .pointer (some ⟨b4, 0, none⟩)), (67, .slice ao2 rs5.length c2), (68, .int .i64 (rs5.length : Int)), (69, .int .i64 (k : Int)), (70, .bool (decide ((k : Int) < (rs5.length : Int)))), (71, eptr ao2 (k * 2)), (72, .agg #[.int .i64 rc.seq, .slice ao3 rc.ims.length c3]), (73, .pointer (some ⟨b4, 1, none⟩)), (74, .slice ao3 rc.ims.length c3), (75, .int .i64 (rc.ims.length : Int))])
      (fun ⟨j, ei, ci⟩ w => Sep z (blk b4 [.int .i64 rc.seq, .slice ao3 rc.ims.length c3] 95 :: poolA hq5 :: blk pl5 [.pointer (some ⟨pd, 0, none⟩), .pointer (some ⟨pt, 0, none⟩), .int .i64 x.gen, .int .i64 x.epoch, .int .i64 x.pages, .int .i64 x.start, .int .i64 x.len, .int .i64 x.head, .int .i64 x.seq, .int .i64 a5, .int .i64 q5, .int .i64 u5, .bool false, .bool (decide (x.epoch < 4294967296))] 176 :: tblA pt :: diskA pd D :: blk b2 [.pointer (some ⟨pd, 0, none⟩), .pointer (some ⟨pt, 0, none⟩), .int .i64 x.gen, .int .i64 x.epoch, .int .i64 x.pages, .int .i64 x.start, .int .i64 x.len, .int .i64 x.head, .int .i64 x.seq, .pointer none, .map (some m1), .bool false, .map none] 108 :: blk b3 [.int .i64 (x.gen + 1), .int .i64 (x.epoch + 1), .int .i64 x.pages, .int .i64 x.start, .int .i64 x.len, .int .i64 x.head, .int .i64 x.seq] 49 :: mapB m1 (ei.map PgE.ie) ci :: R) w ∧ (j ≤ rc.ims.length ∧ PgsIn (ovI (ov (rs5.take k)) (rc.ims.take j)) ei ci hq5)) (fun ⟨j, ei, ci⟩ => rc.ims.length - j) ⟨0, es, cl⟩
      (fun _ hF => (hF.cons (hF.cons (hF.cons (hF.cons (hF.cons (hF.cons (hF.cons (hF.cons (hF.cons (hF.cons (hF.cons (hF.cons (hF.cons (hF.cons (hF.cons (hF.cons hF.nil 75 _ _ rfl rfl) 74 _ _ rfl rfl) 73 _ _ rfl rfl) 72 _ _ rfl rfl) 71 _ _ rfl rfl) 70 _ _ rfl rfl) 69 _ _ rfl rfl) 68 _ _ rfl rfl) 67 _ _ rfl rfl) 10 _ _ rfl rfl) 5 _ _ rfl rfl) 4 _ _ rfl rfl) 3 _ _ rfl rfl) 2 _ _ rfl rfl) 0 _ _ rfl rfl) 76 _ _ rfl (by go_num))) ⟨H, by omega, hpgo⟩ ?_
    clear H; rintro ⟨j, ei, ci⟩ w ⟨H', hI⟩; dsimp only at hI H' ⊢
    have H := H'.l8; clear H'; obtain ⟨hjr, hpg⟩ := hI; refine k_seq (s_region (s_M 1 rfl rfl (s_end (k_seq (k_dec rfl (fun h4 => ?_) (fun h4 => ?_))))))
    ·refine k_skip (k_seq (k_block (k_seq (s_region ?_)))); obtain ⟨⟨⟨inum, ikd, ibd⟩, u1⟩, hgi1⟩ : ∃ e : ImE, is1[j]? = some e := ⟨_, List.getElem?_eq_getElem (by omega)⟩; have him : rc.ims[j]? = some ⟨inum, ikd, ibd⟩ := by rw [← hs1]; simp [hgi1]
     obtain ⟨⟨him1, him2⟩, him3, him4⟩ := (hrcm.2 _ (List.mem_of_getElem? him)).1; dsimp only at him1 him2 him3 him4
     obtain ⟨n, rfl⟩ : ∃ n : Nat, inum = (n : Int) := ⟨inum.toNat, by omega⟩; have hb1 := hki1 _ (List.mem_of_getElem? hgi1)
     dsimp only at hb1
     rw [him4] at hb1; have su1 := hb1.slc
     have hat3 := (H.rd 1 rfl (fun h q => hri1.le q)).at (imC_get hgi1 0 _ rfl)
     obtain ⟨es4, hpm, hpg4, _⟩ := hpg.put (k := n) (p := ⟨ikd, ibd⟩) (v := u1) ⟨him3, him4⟩ hb1; refine s_do rfl rfl rfl (d_indexE rfl (z := 3) (j := j) (r := j * 3) (by kernel_rfl) rfl rfl rfl (by omega) hat3 (by omega)) (s_do rfl rfl rfl (d_loadAggE rfl rfl (vs := [.int .i64 (n : Int), .int .i64 ikd, u1]) (by kernel_rfl) (by simp) (here (fun k u hk => (H.rd 1 rfl (fun h q => hri1.le q)).at (imC_get hgi1 k u hk)))) (s_go rfl rfl rfl (n_alloc (P := Tryz.prog) H rfl (zs := [.int .i64 0, .int .i64 0, .slice none 0 0]) (by kernel_rfl)) ?_)); rintro _ w ⟨b5, rfl, H'⟩; have H := H'.l9; clear H'; refine s_put rfl rfl (n_store 0 H rfl rfl rfl rfl (vs := [.int .i64 (n : Int), .int .i64 ikd, u1]) rfl (one_cons rfl (one_cons rfl (one_cons su1.one one_nil))) (by kernel_rfl) (by simp) (out := [.int .i64 (n : Int), .int .i64 ikd, u1]) rfl) ?_; rintro w H'; have H := H'.l9; clear H'; refine s_end ?_; replace H := H.f6; refine a_region (Sep z (blk b2 [.pointer (some ⟨pd, 0, none⟩), .pointer (some ⟨pt, 0, none⟩), .int .i64 x.gen, .int .i64 x.epoch, .int .i64 x.pages, .int .i64 x.start, .int .i64 x.len, .int .i64 x.head, .int .i64 x.seq, .pointer none, .map (some m1), .bool false, .map none] 108 :: blk b5 [.int .i64 (n : Int), .int .i64 ikd, u1] 98 :: R)) 9 rfl (by kernel_rfl) (fun w' x' _ => ?_); have H' := H.ext0 x'; clear x' H; revert H'; generalize w' = w; intro H'
     have H := H'.l9; clear H'; refine a_do 0 rfl (by kernel_rfl) (by kernel_rfl) (by kernel_rfl) rfl rfl rfl (d_move rfl rfl) (H.pick 9 [0, 1] rfl) (a_do 1 rfl (by kernel_rfl) (by kernel_rfl) (by kernel_rfl) rfl rfl rfl (d_nilCheck rfl rfl) (H.pick 9 [0, 1] rfl) (a_do 2 rfl (by kernel_rfl) (by kernel_rfl) (by kernel_rfl) rfl rfl rfl (d_field rfl (k := 10) (r := 10) (by kernel_rfl) rfl rfl) (H.pick 9 [0, 1] rfl) (a_do 3 rfl (by kernel_rfl) (by kernel_rfl) (by kernel_rfl) rfl rfl rfl (d_load rfl rfl (by kernel_rfl) (fun _ hx => hx.cel 0 rfl 10 rfl)) (H.pick 9 [0, 1] rfl) (a_do 4 rfl (by kernel_rfl) (by kernel_rfl) (by kernel_rfl) rfl rfl rfl (d_field rfl (k := 0) (r := 0) (by kernel_rfl) rfl rfl) (H.pick 9 [0, 1] rfl) (a_do 5 rfl (by kernel_rfl) (by kernel_rfl) (by kernel_rfl) rfl rfl rfl (d_load rfl rfl (by kernel_rfl) (fun _ hx => hx.cel 1 rfl 0 rfl)) (H.pick 9 [0, 1] rfl) (a_do 6 rfl (by kernel_rfl) (by kernel_rfl) (by kernel_rfl) rfl rfl rfl (d_field rfl (k := 1) (r := 1) (by kernel_rfl) rfl rfl) (H.pick 9 [0, 1] rfl) (a_do 7 rfl (by kernel_rfl) (by kernel_rfl) (by kernel_rfl) rfl rfl rfl (d_loadAgg rfl rfl (vs := [.int .i64 ikd, u1]) (by kernel_rfl) (fun _ hx => (hx.blk 1 rfl).part 1 2 _ rfl)) (H.pick 9 [0, 1] rfl) (a_all [8] (by kernel_rfl) (by simp) (all1 (o_put rfl rfl rfl (n_mapUpdate 8 (e := 65) H rfl rfl (by kernel_rfl) rfl rfl rfl) ?_)))))))))); rintro w H'; have H := H'.l9; clear H'; refine a_and (H.pick 9 [0, 1] rfl) (a_done (by kernel_rfl) ?_); rw [hpm] at H; have H : Sep z (blk b2 [.pointer (some ⟨pd, 0, none⟩), .pointer (some ⟨pt, 0, none⟩), .int .i64 x.gen, .int .i64 x.epoch, .int .i64 x.pages, .int .i64 x.start, .int .i64 x.len, .int .i64 x.head, .int .i64 x.seq, .pointer none, .map (some m1), .bool false, .map none] 108 :: blk b5 [.int .i64 (n : Int), .int .i64 ikd, u1] 98 :: blk b4 [.int .i64 rc.seq, .slice ao3 rc.ims.length c3] 95 :: poolA hq5 :: blk pl5 [.pointer (some ⟨pd, 0, none⟩), .pointer (some ⟨pt, 0, none⟩), .int .i64 x.gen, .int .i64 x.epoch, .int .i64 x.pages, .int .i64 x.start, .int .i64 x.len, .int .i64 x.head, .int .i64 x.seq, .int .i64 a5, .int .i64 q5, .int .i64 u5, .bool false, .bool (decide (x.epoch < 4294967296))] 176 :: tblA pt :: diskA pd D :: blk b3 [.int .i64 (x.gen + 1), .int .i64 (x.epoch + 1), .int .i64 x.pages, .int .i64 x.start, .int .i64 x.len, .int .i64 x.head, .int .i64 x.seq] 49 :: mapB m1 (es4.map PgE.ie) (putC (ei.map PgE.ie) (n : Int) ci) :: R) w := H
     refine s_region (s_do rfl rfl rfl (d_add64 rfl rfl rfl (r := (j : Int) + 1) (by omega) (by omega)) (s_M 1 rfl rfl (s_end ?_))); replace H := H.f1.d.f7.f7.f2.f7.f7.f7.f7.f7; intro _ hF; refine ⟨⟨j + 1, es4, putC (ei.map PgE.ie) (n : Int) ci⟩, (hF.cons (hF.cons (hF.cons (hF.cons (hF.cons (hF.cons (hF.cons (hF.cons (hF.cons (hF.cons (hF.cons (hF.cons (hF.cons (hF.cons (hF.cons (hF.cons hF.nil 75 _ _ rfl rfl) 74 _ _ rfl rfl) 73 _ _ rfl rfl) 72 _ _ rfl rfl) 71 _ _ rfl rfl) 70 _ _ rfl rfl) 69 _ _ rfl rfl) 68 _ _ rfl rfl) 67 _ _ rfl rfl) 10 _ _ rfl rfl) 5 _ _ rfl rfl) 4 _ _ rfl rfl) 3 _ _ rfl rfl) 2 _ _ rfl rfl) 0 _ _ rfl rfl) 76 _ _ rfl (by go_num)), ⟨H, ?_⟩, ?_⟩
     ·dsimp only
      exact ⟨by omega, (ovI_take_succ him) ▸ hpg4⟩
     ·(dsimp only; omega)
    ·obtain rfl : j = rc.ims.length := by omega
     refine k_exit (k_here (s_region (s_do rfl rfl rfl (d_add64 rfl rfl rfl (r := (k : Int) + 1) (by omega) (by omega)) (s_M 1 rfl rfl (s_end ?_))))); replace H := H.d; intro _ hF; refine ⟨⟨k + 1, ei, ci⟩, (hF.cons (hF.cons (hF.cons (hF.cons (hF.cons (hF.cons (hF.cons (hF.cons hF.nil 68 _ _ rfl rfl) 67 _ _ rfl rfl) 5 _ _ rfl rfl) 4 _ _ rfl rfl) 3 _ _ rfl rfl) 2 _ _ rfl rfl) 0 _ _ rfl rfl) 69 _ _ rfl (by go_num)), ⟨H, ?_⟩, ?_⟩
     ·dsimp only
      rw [List.take_of_length_le (Nat.le_refl _), ov_take_succ hrk] at hpg; exact ⟨by omega, hpg⟩
     ·(dsimp only; omega)
   ·obtain rfl : k = rs5.length := by omega
    have hpg := hpgo
    rw [List.take_of_length_le (Nat.le_refl _)] at hpg; refine k_exit (k_here (k_seq (s_region (s_Q 1 [5] rfl (by kernel_rfl) (s_put rfl rfl (n_store 5 H rfl rfl rfl rfl (vs := [.int .i64 0]) rfl (by simp [u8, u32, Value.oneCell']) (by kernel_rfl) (by simp) (out := [.int .i64 (x.gen + 1), .int .i64 (x.epoch + 1), .int .i64 x.pages, .int .i64 x.start, .int .i64 x.len, .int .i64 0, .int .i64 x.seq]) rfl) ?_))))); rintro w H'; have H := H'.l7; clear H'; refine s_Q 1 [6] rfl (by kernel_rfl) (s_put rfl rfl (n_store 5 H rfl rfl rfl rfl (vs := [.int .i64 1]) rfl (by simp [u8, u32, Value.oneCell']) (by kernel_rfl) (by simp) (out := [.int .i64 (x.gen + 1), .int .i64 (x.epoch + 1), .int .i64 x.pages, .int .i64 x.start, .int .i64 x.len, .int .i64 0, .int .i64 1]) rfl) ?_); rintro w H'; have H := H'.l7; clear H'; refine s_end (k_seq (k_seq (s_region (s_M 1 rfl rfl (s_do rfl rfl rfl (d_loadAgg rfl rfl (vs := [.int .i64 (x.gen + 1), .int .i64 (x.epoch + 1), .int .i64 x.pages, .int .i64 x.start, .int .i64 x.len, .int .i64 0, .int .i64 1]) (by kernel_rfl) (here ((H.blk 5 rfl).part 0 7 _ rfl))) ?_))))); have H' := H.toPgs 6 rfl hpg
    have H := H'.l7; clear H'; refine s_C rfl rfl rfl rfl rfl (fun w => Tryz.call66 _ w) (settle2_c _ _ _ _ _ _ _ _ (ov rs5) _ (opS x) D hfbb hfnn hoky (fun i => by rw [hO.ver]; simp)) H.f6.f4.f4.f5 rfl ?_; rintro _ w _ (⟨ks, hks, rfl, rfl⟩ | ⟨ks, c, D2, hks, hcne, hsf, rfl, rfl⟩) H'
    ·have H := H'.l7; clear H'; refine s_M 1 rfl rfl (s_end (k_seq (s_region (s_M 2 rfl rfl (k_updA 96 (u := .bool (decide ((0 : Int) ≠ 0))) (v := .bool false) rfl (congrArg Value.bool (by decide)) (s_end (k_false rfl (k_skip (k_seq ?_))))))))); replace H := H.f6.f1; refine l_region (Sep z (blk b2 [.pointer (some ⟨pd, 0, none⟩), .pointer (some ⟨pt, 0, none⟩), .int .i64 ((opS x).gen), .int .i64 ((opS x).epoch), .int .i64 ((opS x).pages), .int .i64 ((opS x).start), .int .i64 ((opS x).len), .int .i64 ((opS x).head), .int .i64 ((opS x).seq), .pointer none, .map (some m1), .bool false, .map none] 108 :: blk b3 [.int .i64 (x.gen + 1), .int .i64 (x.epoch + 1), .int .i64 x.pages, .int .i64 x.start, .int .i64 x.len, .int .i64 0, .int .i64 1] 49 :: R)) 11 rfl (by kernel_rfl) (fun w' x' _ => ?_); have H' := H.ext0 x'; clear x' H; revert H'; generalize w' = w; intro H'
     have H := H'.l7; clear H'; refine l_do 0 (by kernel_rfl) rfl rfl (by kernel_rfl) (by kernel_rfl) (by kernel_rfl) rfl rfl rfl (d_move rfl rfl) (H.pick 7 [0, 1] rfl) (l_do 1 (by kernel_rfl) rfl rfl (by kernel_rfl) (by kernel_rfl) (by kernel_rfl) rfl rfl rfl (d_move rfl rfl) (H.pick 7 [0, 1] rfl) (l_do 2 (by kernel_rfl) rfl rfl (by kernel_rfl) (by kernel_rfl) (by kernel_rfl) rfl rfl rfl (d_move rfl rfl) (H.pick 7 [0, 1] rfl) (l_do 3 (by kernel_rfl) rfl rfl (by kernel_rfl) (by kernel_rfl) (by kernel_rfl) rfl rfl rfl (d_nilCheck rfl rfl) (H.pick 7 [0, 1] rfl) (l_do 4 (by kernel_rfl) rfl rfl (by kernel_rfl) (by kernel_rfl) (by kernel_rfl) rfl rfl rfl (d_field rfl (k := 1) (r := 1) (by kernel_rfl) rfl rfl) (H.pick 7 [0, 1] rfl) (l_do 5 (by kernel_rfl) rfl rfl (by kernel_rfl) (by kernel_rfl) (by kernel_rfl) rfl rfl rfl (d_load rfl rfl (by kernel_rfl) (fun _ hx => hx.cel 0 rfl 1 rfl)) (H.pick 7 [0, 1] rfl) (l_do 6 (by kernel_rfl) rfl rfl (by kernel_rfl) (by kernel_rfl) (by kernel_rfl) rfl rfl rfl (d_loadAgg rfl rfl (vs := [.int .i64 (x.gen + 1), .int .i64 (x.epoch + 1), .int .i64 x.pages, .int .i64 x.start, .int .i64 x.len, .int .i64 0, .int .i64 1]) (by kernel_rfl) (fun _ hx => (hx.blk 1 rfl).part 0 7 _ rfl)) (H.pick 7 [0, 1] rfl) (l_all [7] (by kernel_rfl) (by simp) (all1 (o_C rfl rfl rfl rfl rfl rfl (fun w => Tryz.call67 _ w) (lnewD_c _ _ _ (opS x) (by show (opS x).Ok ((hwD D _).n : Int); rw [hw_n]; exact hoky)) H.f3 rfl ?_))))))))); rintro _ w _ ⟨pl, rfl, rfl⟩ H'; have H := H'.l8; clear H'; refine l_and (fun _ => (H.pick 8 [2, 3] rfl)) (l_do 8 (by kernel_rfl) rfl rfl (by kernel_rfl) (by kernel_rfl) (by kernel_rfl) rfl rfl rfl (d_nilCheck rfl rfl) (H.pick 8 [2, 3] rfl) (l_do 9 (by kernel_rfl) rfl rfl (by kernel_rfl) (by kernel_rfl) (by kernel_rfl) rfl rfl rfl (d_field rfl (k := 9) (r := 9) (by kernel_rfl) rfl rfl) (H.pick 8 [2, 3] rfl) (l_all [10] (by kernel_rfl) (by simp) (all1 (o_put rfl rfl rfl (n_store 2 H rfl rfl rfl rfl (vs := [.pointer (some ⟨pl, 0, none⟩)]) rfl (by simp [u8, u32, Value.oneCell']) (by kernel_rfl) (by simp) (out := [.pointer (some ⟨pd, 0, none⟩), .pointer (some ⟨pt, 0, none⟩), .int .i64 ((opS x).gen), .int .i64 ((opS x).epoch), .int .i64 ((opS x).pages), .int .i64 ((opS x).start), .int .i64 ((opS x).len), .int .i64 ((opS x).head), .int .i64 ((opS x).seq), .pointer (some ⟨pl, 0, none⟩), .map (some m1), .bool false, .map none]) rfl) ?_)))))
     rintro w H'; have H := H'.l8; clear H'; refine l_and (fun h => absurd rfl h) (l_done (by kernel_rfl) (k_seq (s_region (s_M 3 rfl rfl (s_end (k_ret (doneL rfl [.pointer (some ⟨b2, 0, none⟩), .int .i64 0] ⟨rfl, ⟨rfl, trivial⟩⟩ (v := .tuple #[.pointer (some ⟨b2, 0, none⟩), .int .i64 0]) rfl ?_))))))); exact ⟨[blk b2 [.pointer (some ⟨pd, 0, none⟩), .pointer (some ⟨pt, 0, none⟩), .int .i64 ((opS x).gen), .int .i64 ((opS x).epoch), .int .i64 ((opS x).pages), .int .i64 ((opS x).start), .int .i64 ((opS x).len), .int .i64 ((opS x).head), .int .i64 ((opS x).seq), .pointer (some ⟨pl, 0, none⟩), .map (some m1), .bool false, .map none] 108, blk pl [.pointer (some ⟨pd, 0, none⟩), .pointer (some ⟨pt, 0, none⟩), .int .i64 ((opS x).gen), .int .i64 ((opS x).epoch), .int .i64 ((opS x).pages), .int .i64 ((opS x).start), .int .i64 ((opS x).len), .int .i64 ((opS x).head), .int .i64 ((opS x).seq), .int .i64 ((opS x).head), .int .i64 ((opS x).seq), .int .i64 0, .bool false, .bool (decide ((opS x).epoch < 4294967296))] 176, tblA pt, diskA pd (svD (hwD D (pgLst (ov rs5) ks)).fl (opS x)), pgsA m1 noPgs hq5, poolA hq5], ⟨b2, pl, _, m1, _, _, rs5, hgd, hO.opened hgd hks hoky hep, (((hcl.hw _).fl).sv _), by show (hwD _ _).n = _; exact hw_n _ _, sv_ver (fun _ => rfl) _, rfl, rfl⟩, H.perm 8 [2, 0, 4, 1, 5, 6] rfl rfl⟩
    ·exact absurd hsf hcl.setF
end Go.Proofs.YtbegkbjigbkljaaGreatDoor
namespace Go.Proofs.YtbegkbjigbkljaaGreatDoor
open Go.RowKit
theorem zh_step (n k : Nat) : wr1 (zhD (newD n) k) false ((2 : Int) + (k : Int)).toNat (List.replicate 256 0) = zhD (newD n) (k + 1) := by
  rw [show ((2 : Int) + (k : Int)).toNat = 2 + k from by omega]; rfl
theorem fm_ok1 {n : Nat} {p s l : Int} (h : (fmS p s l 2).Ok (n : Int)) : (fmS p s l 1).Ok (n : Int) := by
  have hk := h.2
  have hs := Sup.get h
  have h2 : (fmS p s l 2).pages = p ∧ (fmS p s l 2).start = s ∧ (fmS p s l 2).len = l ∧ (fmS p s l 2).head = 0 := ⟨rfl, rfl, rfl, rfl⟩
  exact Sup.ok_mk (by show 0 ≤ (1 : Int) ∧ (1 : Int) ≤ 1099511627776; omega) (by show 0 ≤ (1 : Int) ∧ (1 : Int) ≤ 1099511627776; omega) (by show 16 ≤ p ∧ p ≤ 1024; omega) (by show 2 + p ≤ s ∧ s ≤ 1099511627776; omega) (by show 64 ≤ l ∧ l ≤ 1099511627776; omega) (by show 0 ≤ (0 : Int) ∧ (0 : Int) < l; omega) (by show 0 ≤ (1 : Int) ∧ (1 : Int) ≤ 1099511627776; omega) (by show s ≤ n - l ∧ l ≤ n; omega)
theorem fm_f {n : Nat} {p s l : Int} (h : (fmS p s l 2).Ok (n : Int)) : (16 ≤ p ∧ p ≤ 1024) ∧ 2 + p ≤ s ∧ s + l ≤ n ∧ 0 ≤ l := by
  have hk := h.2
  have h2 : (fmS p s l 2).pages = p ∧ (fmS p s l 2).start = s ∧ (fmS p s l 2).len = l ∧ (fmS p s l 2).head = 0 := ⟨rfl, rfl, rfl, rfl⟩
  omega
set_option maxHeartbeats 2000000 in
theorem format_c (pd n : Nat) (p s l : Int) (hok : (fmS p s l 2).Ok (n : Int)) : Cn Tryz.prog 28 [.pointer (some ⟨pd, 0, none⟩), .int .i64 p, .int .i64 s, .int .i64 l] [diskA pd (newD n)] (fun v Γ => v = .int .i64 0 ∧ Γ = [diskA pd (fmD n p s l)]) := by
 intro z R w H'; have H : Sep z (diskA pd (newD n) :: R) w := H'
 clear H'; have hok1 : (fmS p s l 1).Ok (n : Int) := fm_ok1 hok
 have hk2 : (16 ≤ p ∧ p ≤ 1024) ∧ 2 + p ≤ s ∧ s + l ≤ n ∧ 0 ≤ l := fm_f hok
 have hn2d := H.says 0 rfl (fun h q => (diskA.ok q).n2)
 have hn3 : n ≤ 4096 := hn2d
 refine enter Tryz.func28 rfl 57 Tryz.ntmps28 rfl (k_seq (s_region (s_M 1 rfl rfl (s_end (k_seq (k_seq (s_region (s_M 1 rfl rfl (s_do rfl rfl rfl (d_eql_pn rfl (by kernel_rfl) rfl rfl) (s_end (k_false rfl (k_skip (k_seq ?_))))))))))))); refine s_region (s_M 3 rfl rfl (s_do rfl rfl rfl (d_build rfl rfl (out := [.int .i64 1, .int .i64 1, .int .i64 p, .int .i64 s, .int .i64 l, .int .i64 0, .int .i64 1]) (by kernel_rfl)) (s_go rfl rfl rfl (n_alloc (P := Tryz.prog) H rfl (zs := [.int .i64 0, .int .i64 0, .int .i64 0, .int .i64 0, .int .i64 0, .int .i64 0, .int .i64 0]) (by kernel_rfl)) ?_))); rintro _ w ⟨b1, rfl, H'⟩; have H := H'.l2; clear H'; refine s_put rfl rfl (n_store 0 H rfl rfl rfl rfl (vs := [.int .i64 1, .int .i64 1, .int .i64 p, .int .i64 s, .int .i64 l, .int .i64 0, .int .i64 1]) rfl (by simp [u8, u32, Value.oneCell']) (by kernel_rfl) (by simp) (out := [.int .i64 1, .int .i64 1, .int .i64 p, .int .i64 s, .int .i64 l, .int .i64 0, .int .i64 1]) rfl) ?_; rintro w H'; have H := H'.l2; clear H'; refine s_end (k_seq (k_seq (q_region (Sep z _) (by kernel_rfl) (by kernel_rfl) H.drew (q_do rfl rfl rfl (d_loadAgg rfl rfl (vs := [.int .i64 1, .int .i64 1, .int .i64 p, .int .i64 s, .int .i64 l, .int .i64 0, .int .i64 1]) (by kernel_rfl) (fun _ hx => (hx.blk 0 rfl).part 0 7 _ rfl)) (q_do rfl rfl rfl (d_move rfl rfl) (q_call rfl rfl rfl rfl rfl (fun w => Tryz.call68 _ w) (v := .int .i64 ((newD n).n : Int)) (cq (sizeD_c _ _) (by rintro _ _ ⟨rfl, rfl⟩; exact ⟨rfl, rfl⟩) 2 [1, 0] [1, 0] rfl rfl rfl rfl) (q_call rfl rfl rfl rfl rfl (fun w => Tryz.call50 _ w) (v := .int .i64 (if (Sup.mk 1 1 p s l 0 1).Ok ((newD n).n : Int) then 0 else 1)) (cq (check_c (Sup.mk 1 1 p s l 0 1) _ (by omega)) (by rintro _ _ ⟨rfl, rfl⟩; exact ⟨rfl, rfl⟩) 0 [] [] rfl rfl rfl rfl) (q_do rfl rfl rfl (d_neq rfl rfl rfl) (q_end (fun w H' => ?_))))))))))
 have H := H'.l2; clear H'; refine k_dec rfl (fun h1 => ?_) (fun h1 => ?_)
 ·exact (h1 (if_pos hok1)).elim
 ·refine k_skip (k_seq (k_seq (s_region (s_M 2 rfl rfl (s_end (k_block ?_)))))); refine c_loop (σ := Nat) (fun k => [(27, .int .i64 (k : Int)), (0, .pointer (some ⟨pd, 0, none⟩)), (9, .pointer (some ⟨b1, 0, none⟩)), (26, .int .i64 p)])
    (fun k w => Sep z (blk b1 [.int .i64 1, .int .i64 1, .int .i64 p, .int .i64 s, .int .i64 l, .int .i64 0, .int .i64 1] 49 :: diskA pd (zhD (newD n) k) :: R) w ∧ (k ≤ p.toNat)) (fun k => p.toNat - k) 0
    (fun _ hF => (hF.cons (hF.cons (hF.cons (hF.cons hF.nil 26 _ _ rfl rfl) 9 _ _ rfl rfl) 0 _ _ rfl rfl) 27 _ _ rfl (by go_num))) ⟨H, by omega⟩ ?_
  clear H; rintro k w ⟨H', hI⟩; have H := H'.l2; clear H'; have hkp := hI; clear hI
  refine k_seq (s_region (s_M 1 rfl rfl (s_end (k_seq (k_dec rfl (fun h2 => ?_) (fun h2 => ?_))))))
  ·refine k_skip (k_seq (k_block (k_seq (s_region (s_M 2 rfl rfl (s_end (k_seq (s_region (s_M 2 rfl rfl (s_do rfl rfl rfl (d_add64 rfl rfl rfl (r := (2 : Int) + (k : Int)) (by omega) (by omega)) (s_go rfl rfl rfl (n_make (k := 256) H rfl (by kernel_rfl) (Elt.mk (P := Tryz.prog) (e := 5) (z := u8 0) (sz := 1) (by_ := 1) (by kernel_rfl) rfl (by omega) (by omega)) rfl rfl rfl (by omega)) ?_))))))))))); rintro _ w ⟨b2, rfl, H'⟩; have H := H'.l3; clear H'; refine s_C rfl rfl rfl rfl rfl (fun w => Tryz.call69 _ w) (write1_c _ _ _ _ _ _ _ (List.replicate 256 0) _ (by simp) (fun h q => by rw [List.map_replicate]; exact q.rd (by omega) (by omega) (by simp) rfl) (fun i => by have := zh_len n i k; omega) (by rw [zh_n]; show 0 ≤ (2 : Int) + (k : Int) ∧ (2 : Int) + (k : Int) + 1 ≤ (n : Int); omega)) H.f2 rfl ?_; rintro _ w _ (⟨hbad, rfl, rfl⟩ | ⟨_, rfl, rfl⟩) H'
   ·exact absurd hbad (zh_clean (newD_clean n) k).bad
   ·have H := H'.l3; clear H'; refine s_M 1 rfl rfl (s_end (k_seq (s_region (s_M 2 rfl rfl (k_updA 36 (u := .bool (decide ((0 : Int) ≠ 0))) (v := .bool false) rfl (congrArg Value.bool (by decide)) (s_end (k_false rfl (k_skip (s_region (s_do rfl rfl rfl (d_add64 rfl rfl rfl (r := (k : Int) + 1) (by omega) (by omega)) (s_M 1 rfl rfl (s_end ?_)))))))))))); replace H := H.f1.d.f1; intro _ hF; refine ⟨(k + 1), (hF.cons (hF.cons (hF.cons (hF.cons hF.nil 26 _ _ rfl rfl) 9 _ _ rfl rfl) 0 _ _ rfl rfl) 27 _ _ rfl (by go_num)), ⟨(by rw [← zh_step]; exact H), ?_⟩, ?_⟩
    ·omega
    ·omega
  ·obtain rfl : k = p.toNat := by omega
   refine k_exit (k_here (k_seq (k_seq (s_region (s_M 1 rfl rfl (s_C rfl rfl rfl rfl rfl (fun w => Tryz.call60 _ w) (flush_c _ _) H.f1 rfl ?_)))))); rintro _ w _ (⟨hfb_, rfl, rfl⟩ | ⟨_, rfl, rfl⟩) H'
   ·exact absurd hfb_ (zh_clean (newD_clean n) p.toNat).flb
   ·have H := H'.l2; clear H'; refine s_M 1 rfl rfl (s_end (k_seq (s_region (s_M 2 rfl rfl (k_updA 42 (u := .bool (decide ((0 : Int) ≠ 0))) (v := .bool false) rfl (congrArg Value.bool (by decide)) (s_end (k_false rfl (k_skip (k_seq (s_region (s_C rfl rfl rfl rfl rfl (fun w => Tryz.call63 _ w) (crcnew_c ) H rfl ?_))))))))))); rintro _ w _ ⟨pt, rfl, rfl⟩ H'; have H := H'.l3; clear H'; refine s_M 1 rfl rfl (s_end (k_seq (k_seq (s_region (s_M 2 rfl rfl (s_do rfl rfl rfl (d_loadAgg rfl rfl (vs := [.int .i64 1, .int .i64 1, .int .i64 p, .int .i64 s, .int .i64 l, .int .i64 0, .int .i64 1]) (by kernel_rfl) (here ((H.blk 2 rfl).part 0 7 _ rfl))) (s_C rfl rfl rfl rfl rfl (fun w => Tryz.call70 _ w) (save_c _ _ _ (fmS p s l 1) (by show (fmS p s l 1).Ok ((zhD (newD n) p.toNat).n : Int); rw [zh_n]; exact hok1) (fun i => by show ([] : List (List UInt8)).length ≤ _; simp)) H.f1 rfl ?_))))))); rintro _ w _ (⟨hsb, rfl, rfl⟩ | ⟨_, rfl, rfl⟩) H'
    ·exact absurd hsb ((zh_clean (newD_clean n) p.toNat).fl).bad
    ·have H := H'.l3; clear H'; refine s_M 1 rfl rfl (s_end (k_seq (s_region (s_M 2 rfl rfl (k_updA 50 (u := .bool (decide ((0 : Int) ≠ 0))) (v := .bool false) rfl (congrArg Value.bool (by decide)) (s_end (k_false rfl (k_skip (k_seq (s_region (s_Q 1 [0] rfl (by kernel_rfl) (s_put rfl rfl (n_store 2 H rfl rfl rfl rfl (vs := [.int .i64 2]) rfl (by simp [u8, u32, Value.oneCell']) (by kernel_rfl) (by simp) (out := [.int .i64 2, .int .i64 1, .int .i64 p, .int .i64 s, .int .i64 l, .int .i64 0, .int .i64 1]) rfl) ?_)))))))))))); rintro w H'; have H := H'.l3; clear H'; refine s_end (k_seq (s_region (s_M 2 rfl rfl (s_do rfl rfl rfl (d_loadAgg rfl rfl (vs := [.int .i64 2, .int .i64 1, .int .i64 p, .int .i64 s, .int .i64 l, .int .i64 0, .int .i64 1]) (by kernel_rfl) (here ((H.blk 2 rfl).part 0 7 _ rfl))) (s_C rfl rfl rfl rfl rfl (fun w => Tryz.call70 _ w) (save_c _ _ _ (fmS p s l 2) (by show (fmS p s l 2).Ok ((zhD (newD n) p.toNat).n : Int); rw [zh_n]; exact hok) (fun i => by rw [sv_ver (fun _ => rfl)]; simp)) H rfl ?_))))); rintro _ w _ (⟨hsb, rfl, rfl⟩ | ⟨_, rfl, rfl⟩) H'
     ·exact absurd hsb (((zh_clean (newD_clean n) p.toNat).fl.sv _)).bad
     ·have H := H'.l3; clear H'; refine s_M 1 rfl rfl (s_end (k_ret (doneL rfl [.int .i64 0] ⟨rfl, trivial⟩ (v := .int .i64 0) rfl ?_))); exact ⟨[diskA pd (svD (svD ((zhD (newD n) p.toNat).fl) (fmS p s l 1)) (fmS p s l 2))], ⟨rfl, rfl⟩, H.perm 3 [0] rfl rfl⟩
theorem ssync_c (ps pd pt md : Nat) (x : Sup) (lp mo : Value) (D : Dsk) : Cn Tryz.prog 23 [.pointer (some ⟨ps, 0, none⟩)] [blk ps [.pointer (some ⟨pd, 0, none⟩), .pointer (some ⟨pt, 0, none⟩), .int .i64 x.gen, .int .i64 x.epoch, .int .i64 x.pages, .int .i64 x.start, .int .i64 x.len, .int .i64 x.head, .int .i64 x.seq, lp, .map (some md), .bool false, mo] 108, diskA pd D] (fun v Γ => (D.flb ∧ v = .int .i64 12 ∧ Γ = [blk ps [.pointer (some ⟨pd, 0, none⟩), .pointer (some ⟨pt, 0, none⟩), .int .i64 x.gen, .int .i64 x.epoch, .int .i64 x.pages, .int .i64 x.start, .int .i64 x.len, .int .i64 x.head, .int .i64 x.seq, lp, .map (some md), .bool false, mo] 108, diskA pd { D with f3 := tick D.f3 }]) ∨ (¬ D.flb ∧ v = .int .i64 0 ∧ Γ = [blk ps [.pointer (some ⟨pd, 0, none⟩), .pointer (some ⟨pt, 0, none⟩), .int .i64 x.gen, .int .i64 x.epoch, .int .i64 x.pages, .int .i64 x.start, .int .i64 x.len, .int .i64 x.head, .int .i64 x.seq, lp, .map (some md), .bool false, mo] 108, diskA pd D.fl])) := by
 intro z R w H'; have H : Sep z (blk ps [.pointer (some ⟨pd, 0, none⟩), .pointer (some ⟨pt, 0, none⟩), .int .i64 x.gen, .int .i64 x.epoch, .int .i64 x.pages, .int .i64 x.start, .int .i64 x.len, .int .i64 x.head, .int .i64 x.seq, lp, .map (some md), .bool false, mo] 108 :: diskA pd D :: R) w := H'
 clear H'; refine enter Tryz.func23 rfl 12 Tryz.ntmps23 rfl (k_seq (s_region (s_M 1 rfl rfl (s_end (k_seq (k_seq (s_region (s_L 4 [11, 0] (mm1 (H.blk 0 rfl) mm0) rfl (by kernel_rfl) rfl (s_end (k_false rfl (k_skip (k_seq (s_region ?_))))))))))))); refine s_L 4 [0, 0] (mm1 (H.blk 0 rfl) mm0) rfl (by kernel_rfl) rfl (s_C rfl rfl rfl rfl rfl (fun w => Tryz.call60 _ w) (flush_c _ _) H.f1 rfl ?_); rintro _ w _ (⟨hfb_, rfl, rfl⟩ | ⟨hfb_, rfl, rfl⟩) H'
 ·have H := H'.l2; clear H'; refine s_M 1 rfl rfl (s_end (k_ret (doneL rfl [.int .i64 12] ⟨rfl, trivial⟩ (v := .int .i64 12) rfl ?_))); exact ⟨[blk ps [.pointer (some ⟨pd, 0, none⟩), .pointer (some ⟨pt, 0, none⟩), .int .i64 x.gen, .int .i64 x.epoch, .int .i64 x.pages, .int .i64 x.start, .int .i64 x.len, .int .i64 x.head, .int .i64 x.seq, lp, .map (some md), .bool false, mo] 108, diskA pd ({ D with f3 := tick D.f3 })], .inl ⟨hfb_, rfl, rfl⟩, H.perm 2 [1, 0] rfl rfl⟩
 ·have H := H'.l2; clear H'; refine s_M 1 rfl rfl (s_end (k_ret (doneL rfl [.int .i64 0] ⟨rfl, trivial⟩ (v := .int .i64 0) rfl ?_))); exact ⟨[blk ps [.pointer (some ⟨pd, 0, none⟩), .pointer (some ⟨pt, 0, none⟩), .int .i64 x.gen, .int .i64 x.epoch, .int .i64 x.pages, .int .i64 x.start, .int .i64 x.len, .int .i64 x.head, .int .i64 x.seq, lp, .map (some md), .bool false, mo] 108, diskA pd D.fl], .inr ⟨hfb_, rfl, rfl⟩, H.perm 2 [1, 0] rfl rfl⟩
set_option maxHeartbeats 2000000 in
theorem check_pt_c (ps pd pt pl md : Nat) (x sL : Sup) (mo : Value) (nu : Bool) (hq : Hp) (D : Dsk) (B : Nat → Pg) (rs : List Rc) (ptl : List (List UInt8)) (a q u : Int) (b : Bool) (sure : Nat) (hS : SInv D x B rs ptl a q u b sure) (hL : sL.start = x.start ∧ sL.len = x.len ∧ sL.epoch = x.epoch) (hqb : q ≤ 1099511627776) (hver : ∀ i, (D.ver i).length ≤ 1000000000000) : Cn Tryz.prog 52 [.pointer (some ⟨ps, 0, none⟩)] [blk ps [.pointer (some ⟨pd, 0, none⟩), .pointer (some ⟨pt, 0, none⟩), .int .i64 x.gen, .int .i64 x.epoch, .int .i64 x.pages, .int .i64 x.start, .int .i64 x.len, .int .i64 x.head, .int .i64 x.seq, .pointer (some ⟨pl, 0, none⟩), .map (some md), .bool false, mo] 108, blk pl [.pointer (some ⟨pd, 0, none⟩), .pointer (some ⟨pt, 0, none⟩), .int .i64 sL.gen, .int .i64 sL.epoch, .int .i64 sL.pages, .int .i64 sL.start, .int .i64 sL.len, .int .i64 sL.head, .int .i64 sL.seq, .int .i64 a, .int .i64 q, .int .i64 u, .bool b, .bool nu] 176, tblA pt, diskA pd D, pgsA md (ov rs) hq, poolA hq] (fun v Γ => ((∀ n, ov rs n = none) ∧ b = false ∧ u < x.len ∧ v = .int .i64 0 ∧ Γ = [blk ps [.pointer (some ⟨pd, 0, none⟩), .pointer (some ⟨pt, 0, none⟩), .int .i64 x.gen, .int .i64 x.epoch, .int .i64 x.pages, .int .i64 x.start, .int .i64 x.len, .int .i64 x.head, .int .i64 x.seq, .pointer (some ⟨pl, 0, none⟩), .map (some md), .bool false, mo] 108, blk pl [.pointer (some ⟨pd, 0, none⟩), .pointer (some ⟨pt, 0, none⟩), .int .i64 sL.gen, .int .i64 sL.epoch, .int .i64 sL.pages, .int .i64 sL.start, .int .i64 sL.len, .int .i64 sL.head, .int .i64 sL.seq, .int .i64 a, .int .i64 q, .int .i64 u, .bool b, .bool nu] 176, tblA pt, diskA pd D, pgsA md (ov rs) hq, poolA hq]) ∨ (∃ D2 : Dsk, ¬ ((∀ n, ov rs n = none) ∧ b = false ∧ u < x.len) ∧ SInv D2 (ckS x a q) (pgMap (ov rs) B) [] [] a q 0 false 0 ∧ (Clean D → Clean D2) ∧ D2.n = D.n ∧ (∀ i, D2.ver i = []) ∧ v = .int .i64 0 ∧ Γ = [blk ps [.pointer (some ⟨pd, 0, none⟩), .pointer (some ⟨pt, 0, none⟩), .int .i64 ((ckS x a q).gen), .int .i64 ((ckS x a q).epoch), .int .i64 ((ckS x a q).pages), .int .i64 ((ckS x a q).start), .int .i64 ((ckS x a q).len), .int .i64 ((ckS x a q).head), .int .i64 ((ckS x a q).seq), .pointer (some ⟨pl, 0, none⟩), .map (some md), .bool false, mo] 108, blk pl [.pointer (some ⟨pd, 0, none⟩), .pointer (some ⟨pt, 0, none⟩), .int .i64 sL.gen, .int .i64 sL.epoch, .int .i64 sL.pages, .int .i64 sL.start, .int .i64 sL.len, .int .i64 sL.head, .int .i64 sL.seq, .int .i64 a, .int .i64 q, .int .i64 0, .bool false, .bool nu] 176, tblA pt, diskA pd D2, pgsA md noPgs hq, poolA hq]) ∨ (∃ (c : Int) (D2 : Dsk) (sure2 : Nat), c ≠ 0 ∧ (¬ Clean D ∨ 1099511627776 < x.gen + 1) ∧ (SInv D2 x B rs ptl a q u b sure2 ∧ sure ≤ sure2) ∧ D2.n = D.n ∧ (∀ i, (D2.ver i).length ≤ (D.ver i).length + 1) ∧ v = .int .i64 c ∧ Γ = [blk ps [.pointer (some ⟨pd, 0, none⟩), .pointer (some ⟨pt, 0, none⟩), .int .i64 x.gen, .int .i64 x.epoch, .int .i64 x.pages, .int .i64 x.start, .int .i64 x.len, .int .i64 x.head, .int .i64 x.seq, .pointer (some ⟨pl, 0, none⟩), .map (some md), .bool false, mo] 108, blk pl [.pointer (some ⟨pd, 0, none⟩), .pointer (some ⟨pt, 0, none⟩), .int .i64 sL.gen, .int .i64 sL.epoch, .int .i64 sL.pages, .int .i64 sL.start, .int .i64 sL.len, .int .i64 sL.head, .int .i64 sL.seq, .int .i64 a, .int .i64 q, .int .i64 u, .bool b, .bool nu] 176, tblA pt, diskA pd D2, pgsA md (ov rs) hq, poolA hq])) := by
 intro z R w H'; have H : Sep z (blk ps [.pointer (some ⟨pd, 0, none⟩), .pointer (some ⟨pt, 0, none⟩), .int .i64 x.gen, .int .i64 x.epoch, .int .i64 x.pages, .int .i64 x.start, .int .i64 x.len, .int .i64 x.head, .int .i64 x.seq, .pointer (some ⟨pl, 0, none⟩), .map (some md), .bool false, mo] 108 :: blk pl [.pointer (some ⟨pd, 0, none⟩), .pointer (some ⟨pt, 0, none⟩), .int .i64 sL.gen, .int .i64 sL.epoch, .int .i64 sL.pages, .int .i64 sL.start, .int .i64 sL.len, .int .i64 sL.head, .int .i64 sL.seq, .int .i64 a, .int .i64 q, .int .i64 u, .bool b, .bool nu] 176 :: tblA pt :: diskA pd D :: pgsA md (ov rs) hq :: poolA hq :: R) w := H'
 clear H'; refine enter Tryz.func52 rfl 9 Tryz.ntmps52 rfl (k_seq (s_region (s_M 1 rfl rfl (s_end (k_seq (k_seq (s_region (s_L 4 [11, 0] (mm1 (H.blk 0 rfl) mm0) rfl (by kernel_rfl) rfl (s_end (k_false rfl (k_skip (k_seq (s_region ?_))))))))))))); refine s_M 1 rfl rfl (s_C rfl rfl rfl rfl rfl (fun w => Tryz.call92 _ w) (checkpoint_c _ _ _ _ _ _ _ _ _ _ _ _ _ _ _ _ _ _ _ _ hS hL (by omega) hver) H rfl ?_); rintro _ w _ (⟨hn0, hbf, hu64, rfl, rfl⟩ | ⟨D2, hne2, hS2, hcl2, hDn2, hv2, rfl, rfl⟩ | ⟨c3_, D2, sure2, hcne, hwhy, ⟨hS2, hsu2⟩, hDn2, hvl2, rfl, rfl⟩) H'
 ·have H := H'.l6; clear H'; refine s_M 1 rfl rfl (s_end (k_ret (doneL rfl [.int .i64 0] ⟨rfl, trivial⟩ (v := .int .i64 0) rfl ?_))); exact ⟨[blk ps [.pointer (some ⟨pd, 0, none⟩), .pointer (some ⟨pt, 0, none⟩), .int .i64 x.gen, .int .i64 x.epoch, .int .i64 x.pages, .int .i64 x.start, .int .i64 x.len, .int .i64 x.head, .int .i64 x.seq, .pointer (some ⟨pl, 0, none⟩), .map (some md), .bool false, mo] 108, blk pl [.pointer (some ⟨pd, 0, none⟩), .pointer (some ⟨pt, 0, none⟩), .int .i64 sL.gen, .int .i64 sL.epoch, .int .i64 sL.pages, .int .i64 sL.start, .int .i64 sL.len, .int .i64 sL.head, .int .i64 sL.seq, .int .i64 a, .int .i64 q, .int .i64 u, .bool b, .bool nu] 176, tblA pt, diskA pd D, pgsA md (ov rs) hq, poolA hq], .inl ⟨hn0, hbf, hu64, rfl, rfl⟩, H⟩
 ·have H := H'.l6; clear H'; refine s_M 1 rfl rfl (s_end (k_ret (doneL rfl [.int .i64 0] ⟨rfl, trivial⟩ (v := .int .i64 0) rfl ?_))); exact ⟨[blk ps [.pointer (some ⟨pd, 0, none⟩), .pointer (some ⟨pt, 0, none⟩), .int .i64 ((ckS x a q).gen), .int .i64 ((ckS x a q).epoch), .int .i64 ((ckS x a q).pages), .int .i64 ((ckS x a q).start), .int .i64 ((ckS x a q).len), .int .i64 ((ckS x a q).head), .int .i64 ((ckS x a q).seq), .pointer (some ⟨pl, 0, none⟩), .map (some md), .bool false, mo] 108, blk pl [.pointer (some ⟨pd, 0, none⟩), .pointer (some ⟨pt, 0, none⟩), .int .i64 sL.gen, .int .i64 sL.epoch, .int .i64 sL.pages, .int .i64 sL.start, .int .i64 sL.len, .int .i64 sL.head, .int .i64 sL.seq, .int .i64 a, .int .i64 q, .int .i64 0, .bool false, .bool nu] 176, tblA pt, diskA pd D2, pgsA md noPgs hq, poolA hq], .inr (.inl ⟨D2, hne2, hS2, hcl2, hDn2, hv2, rfl, rfl⟩), H⟩
 ·have H := H'.l6; clear H'; refine s_M 1 rfl rfl (s_end (k_ret (doneL rfl [.int .i64 c3_] ⟨rfl, trivial⟩ (v := .int .i64 c3_) rfl ?_))); exact ⟨[blk ps [.pointer (some ⟨pd, 0, none⟩), .pointer (some ⟨pt, 0, none⟩), .int .i64 x.gen, .int .i64 x.epoch, .int .i64 x.pages, .int .i64 x.start, .int .i64 x.len, .int .i64 x.head, .int .i64 x.seq, .pointer (some ⟨pl, 0, none⟩), .map (some md), .bool false, mo] 108, blk pl [.pointer (some ⟨pd, 0, none⟩), .pointer (some ⟨pt, 0, none⟩), .int .i64 sL.gen, .int .i64 sL.epoch, .int .i64 sL.pages, .int .i64 sL.start, .int .i64 sL.len, .int .i64 sL.head, .int .i64 sL.seq, .int .i64 a, .int .i64 q, .int .i64 u, .bool b, .bool nu] 176, tblA pt, diskA pd D2, pgsA md (ov rs) hq, poolA hq], .inr (.inr ⟨c3_, D2, sure2, hcne, hwhy, ⟨hS2, hsu2⟩, hDn2, hvl2, rfl, rfl⟩), H⟩
set_option maxHeartbeats 2000000 in
theorem switch_c (ps pd pt pl md : Nat) (x sL : Sup) (mo : Value) (nu : Bool) (hq : Hp) (D : Dsk) (B : Nat → Pg) (rs : List Rc) (ptl : List (List UInt8)) (a q u : Int) (b : Bool) (sure : Nat) (hS : SInv D x B rs ptl a q u b sure) (hL : sL.start = x.start ∧ sL.len = x.len ∧ sL.epoch = x.epoch) (hqb : q ≤ 1099511627776) (hver : ∀ i, (D.ver i).length ≤ 1000000000000) (start len : Int) (he1 : x.epoch + 1 < 4294967296) : Cn Tryz.prog 53 [.pointer (some ⟨ps, 0, none⟩), .int .i64 start, .int .i64 len] [blk ps [.pointer (some ⟨pd, 0, none⟩), .pointer (some ⟨pt, 0, none⟩), .int .i64 x.gen, .int .i64 x.epoch, .int .i64 x.pages, .int .i64 x.start, .int .i64 x.len, .int .i64 x.head, .int .i64 x.seq, .pointer (some ⟨pl, 0, none⟩), .map (some md), .bool false, mo] 108, blk pl [.pointer (some ⟨pd, 0, none⟩), .pointer (some ⟨pt, 0, none⟩), .int .i64 sL.gen, .int .i64 sL.epoch, .int .i64 sL.pages, .int .i64 sL.start, .int .i64 sL.len, .int .i64 sL.head, .int .i64 sL.seq, .int .i64 a, .int .i64 q, .int .i64 u, .bool b, .bool nu] 176, tblA pt, diskA pd D, pgsA md (ov rs) hq, poolA hq] (fun v Γ => ((¬ ∀ n, ov rs n = none) ∧ v = .int .i64 17 ∧ Γ = [blk ps [.pointer (some ⟨pd, 0, none⟩), .pointer (some ⟨pt, 0, none⟩), .int .i64 x.gen, .int .i64 x.epoch, .int .i64 x.pages, .int .i64 x.start, .int .i64 x.len, .int .i64 x.head, .int .i64 x.seq, .pointer (some ⟨pl, 0, none⟩), .map (some md), .bool false, mo] 108, blk pl [.pointer (some ⟨pd, 0, none⟩), .pointer (some ⟨pt, 0, none⟩), .int .i64 sL.gen, .int .i64 sL.epoch, .int .i64 sL.pages, .int .i64 sL.start, .int .i64 sL.len, .int .i64 sL.head, .int .i64 sL.seq, .int .i64 a, .int .i64 q, .int .i64 u, .bool b, .bool nu] 176, tblA pt, diskA pd D, pgsA md (ov rs) hq, poolA hq]) ∨ ((∀ n, ov rs n = none) ∧ ¬ (swS x start len).Ok (D.n : Int) ∧ v = .int .i64 1 ∧ Γ = [blk ps [.pointer (some ⟨pd, 0, none⟩), .pointer (some ⟨pt, 0, none⟩), .int .i64 x.gen, .int .i64 x.epoch, .int .i64 x.pages, .int .i64 x.start, .int .i64 x.len, .int .i64 x.head, .int .i64 x.seq, .pointer (some ⟨pl, 0, none⟩), .map (some md), .bool false, mo] 108, blk pl [.pointer (some ⟨pd, 0, none⟩), .pointer (some ⟨pt, 0, none⟩), .int .i64 sL.gen, .int .i64 sL.epoch, .int .i64 sL.pages, .int .i64 sL.start, .int .i64 sL.len, .int .i64 sL.head, .int .i64 sL.seq, .int .i64 a, .int .i64 q, .int .i64 u, .bool b, .bool nu] 176, tblA pt, diskA pd D, pgsA md (ov rs) hq, poolA hq]) ∨ ((∀ n, ov rs n = none) ∧ (swS x start len).Ok (D.n : Int) ∧ D.bad ∧ v = .int .i64 11 ∧ Γ = [blk ps [.pointer (some ⟨pd, 0, none⟩), .pointer (some ⟨pt, 0, none⟩), .int .i64 x.gen, .int .i64 x.epoch, .int .i64 x.pages, .int .i64 x.start, .int .i64 x.len, .int .i64 x.head, .int .i64 x.seq, .pointer (some ⟨pl, 0, none⟩), .map (some md), .bool false, mo] 108, blk pl [.pointer (some ⟨pd, 0, none⟩), .pointer (some ⟨pt, 0, none⟩), .int .i64 sL.gen, .int .i64 sL.epoch, .int .i64 sL.pages, .int .i64 sL.start, .int .i64 sL.len, .int .i64 sL.head, .int .i64 sL.seq, .int .i64 a, .int .i64 q, .int .i64 u, .bool b, .bool nu] 176, tblA pt, diskA pd D.wf, pgsA md (ov rs) hq, poolA hq]) ∨ ((∀ n, ov rs n = none) ∧ (swS x start len).Ok (D.n : Int) ∧ ¬ D.bad ∧ ∃ pl2, SInv (svD D (swS x start len)) (swS x start len) B [] [] 0 1 0 false 0 ∧ v = .int .i64 0 ∧ Γ = [blk ps [.pointer (some ⟨pd, 0, none⟩), .pointer (some ⟨pt, 0, none⟩), .int .i64 ((swS x start len).gen), .int .i64 ((swS x start len).epoch), .int .i64 ((swS x start len).pages), .int .i64 ((swS x start len).start), .int .i64 ((swS x start len).len), .int .i64 ((swS x start len).head), .int .i64 ((swS x start len).seq), .pointer (some ⟨pl2, 0, none⟩), .map (some md), .bool false, mo] 108, blk pl2 [.pointer (some ⟨pd, 0, none⟩), .pointer (some ⟨pt, 0, none⟩), .int .i64 ((swS x start len).gen), .int .i64 ((swS x start len).epoch), .int .i64 ((swS x start len).pages), .int .i64 ((swS x start len).start), .int .i64 ((swS x start len).len), .int .i64 ((swS x start len).head), .int .i64 ((swS x start len).seq), .int .i64 0, .int .i64 1, .int .i64 0, .bool false, .bool (decide ((swS x start len).epoch < 4294967296))] 176, tblA pt, diskA pd (svD D (swS x start len)), pgsA md (ov rs) hq, poolA hq])) := by
 intro z R w H'; have H : Sep z (blk ps [.pointer (some ⟨pd, 0, none⟩), .pointer (some ⟨pt, 0, none⟩), .int .i64 x.gen, .int .i64 x.epoch, .int .i64 x.pages, .int .i64 x.start, .int .i64 x.len, .int .i64 x.head, .int .i64 x.seq, .pointer (some ⟨pl, 0, none⟩), .map (some md), .bool false, mo] 108 :: blk pl [.pointer (some ⟨pd, 0, none⟩), .pointer (some ⟨pt, 0, none⟩), .int .i64 sL.gen, .int .i64 sL.epoch, .int .i64 sL.pages, .int .i64 sL.start, .int .i64 sL.len, .int .i64 sL.head, .int .i64 sL.seq, .int .i64 a, .int .i64 q, .int .i64 u, .bool b, .bool nu] 176 :: tblA pt :: diskA pd D :: pgsA md (ov rs) hq :: poolA hq :: R) w := H'
 clear H'; have hok := hS.ok
 have hsg := Sup.get hok
 have hk2 := hok.2
 have hP := hS.p
 have hpa := hP.at_ok hS.s
 have hul := hP.ul
 have hfu := hP.fu
 have hgen := hS.gen
 have hfq := hP.fq
 have hsq := hS.s.seq
 have hq0 : 0 ≤ q := by split at hfq <;> omega
 have hhd := hS.s.head
 have hfbb : ∀ n, (ov rs n).isSome = true → n < 1024 := fun n h => by have := hS.ovb h; omega
 have hfnn : ∀ n, (ov rs n).isSome = true → 2 + n < D.n := fun n h => by have := hS.ovb h; omega
 have hn2d := H.says 3 rfl (fun h q => (diskA.ok q).n2)
 obtain ⟨es, clk, hpg, H'⟩ := H.pgs 4 rfl; clear H; have H := H'.l6; clear H'; refine enter Tryz.func53 rfl 77 Tryz.ntmps53 rfl (k_seq (s_region (s_M 1 rfl rfl (s_end (k_seq (k_seq (s_region (s_L 9 [11, 0, 10, 0] (mm1 (H.blk 0 rfl) mm0) rfl (by kernel_rfl) rfl (s_do rfl rfl rfl (d_lenM (e := 65) rfl (by kernel_rfl) rfl (here (H.bk 4 rfl))) (s_M 2 rfl rfl (s_end (k_dec rfl (fun h1 => ?_) (fun h1 => ?_)))))))))))))
 ·refine k_seq (s_region (s_M 1 rfl rfl (s_end (k_ret (doneL rfl [.int .i64 17] ⟨rfl, trivial⟩ (v := .int .i64 17) rfl ?_))))); have H' := H.toPgs 4 rfl hpg
  have H := H'.l6; clear H'; exact ⟨[blk ps [.pointer (some ⟨pd, 0, none⟩), .pointer (some ⟨pt, 0, none⟩), .int .i64 x.gen, .int .i64 x.epoch, .int .i64 x.pages, .int .i64 x.start, .int .i64 x.len, .int .i64 x.head, .int .i64 x.seq, .pointer (some ⟨pl, 0, none⟩), .map (some md), .bool false, mo] 108, blk pl [.pointer (some ⟨pd, 0, none⟩), .pointer (some ⟨pt, 0, none⟩), .int .i64 sL.gen, .int .i64 sL.epoch, .int .i64 sL.pages, .int .i64 sL.start, .int .i64 sL.len, .int .i64 sL.head, .int .i64 sL.seq, .int .i64 a, .int .i64 q, .int .i64 u, .bool b, .bool nu] 176, tblA pt, diskA pd D, pgsA md (ov rs) hq, poolA hq], .inl ⟨fun hn => by have hz := hpg.nil_iff.2 hn; simp at h1; omega, rfl, rfl⟩, H⟩
 ·refine k_skip (k_seq (s_region (s_Q 3 [2] rfl (by kernel_rfl) (s_do rfl rfl rfl (d_loadAgg rfl rfl (vs := [.int .i64 x.gen, .int .i64 x.epoch, .int .i64 x.pages, .int .i64 x.start, .int .i64 x.len, .int .i64 x.head, .int .i64 x.seq]) (by kernel_rfl) (here ((H.blk 0 rfl).part 2 7 _ rfl))) (s_go rfl rfl rfl (n_alloc (P := Tryz.prog) H rfl (zs := [.int .i64 0, .int .i64 0, .int .i64 0, .int .i64 0, .int .i64 0, .int .i64 0, .int .i64 0]) (by kernel_rfl)) ?_))))); rintro _ w ⟨b1, rfl, H'⟩; have H := H'.l7; clear H'; refine s_put rfl rfl (n_store 0 H rfl rfl rfl rfl (vs := [.int .i64 x.gen, .int .i64 x.epoch, .int .i64 x.pages, .int .i64 x.start, .int .i64 x.len, .int .i64 x.head, .int .i64 x.seq]) rfl (by simp [u8, u32, Value.oneCell']) (by kernel_rfl) (by simp) (out := [.int .i64 x.gen, .int .i64 x.epoch, .int .i64 x.pages, .int .i64 x.start, .int .i64 x.len, .int .i64 x.head, .int .i64 x.seq]) rfl) ?_; rintro w H'; have H := H'.l7; clear H'; refine s_end (k_seq (s_region (s_L 2 [0, 0] (mm1 (H.blk 0 rfl) mm0) rfl (by kernel_rfl) rfl (s_do rfl rfl rfl (d_add64 rfl rfl rfl (r := x.gen + 1) (by omega) (by omega)) (s_Q 1 [0] rfl (by kernel_rfl) (s_put rfl rfl (n_store 0 H rfl rfl rfl rfl (vs := [.int .i64 (x.gen + 1)]) rfl (by simp [u8, u32, Value.oneCell']) (by kernel_rfl) (by simp) (out := [.int .i64 (x.gen + 1), .int .i64 x.epoch, .int .i64 x.pages, .int .i64 x.start, .int .i64 x.len, .int .i64 x.head, .int .i64 x.seq]) rfl) ?_)))))); rintro w H'; have H := H'.l7; clear H'; refine s_end (k_seq (s_region (s_L 2 [1, 0] (mm1 (H.blk 0 rfl) mm0) rfl (by kernel_rfl) rfl (s_do rfl rfl rfl (d_add64 rfl rfl rfl (r := x.epoch + 1) (by omega) (by omega)) (s_Q 1 [1] rfl (by kernel_rfl) (s_put rfl rfl (n_store 0 H rfl rfl rfl rfl (vs := [.int .i64 (x.epoch + 1)]) rfl (by simp [u8, u32, Value.oneCell']) (by kernel_rfl) (by simp) (out := [.int .i64 (x.gen + 1), .int .i64 (x.epoch + 1), .int .i64 x.pages, .int .i64 x.start, .int .i64 x.len, .int .i64 x.head, .int .i64 x.seq]) rfl) ?_))))))
  rintro w H'; have H := H'.l7; clear H'; refine s_end (k_seq (s_region (s_Q 3 [3] rfl (by kernel_rfl) (s_put rfl rfl (n_store 0 H rfl rfl rfl rfl (vs := [.int .i64 start]) rfl (by simp [u8, u32, Value.oneCell']) (by kernel_rfl) (by simp) (out := [.int .i64 (x.gen + 1), .int .i64 (x.epoch + 1), .int .i64 x.pages, .int .i64 start, .int .i64 x.len, .int .i64 x.head, .int .i64 x.seq]) rfl) ?_)))); rintro w H'; have H := H'.l7; clear H'; refine s_Q 1 [4] rfl (by kernel_rfl) (s_put rfl rfl (n_store 0 H rfl rfl rfl rfl (vs := [.int .i64 len]) rfl (by simp [u8, u32, Value.oneCell']) (by kernel_rfl) (by simp) (out := [.int .i64 (x.gen + 1), .int .i64 (x.epoch + 1), .int .i64 x.pages, .int .i64 start, .int .i64 len, .int .i64 x.head, .int .i64 x.seq]) rfl) ?_); rintro w H'; have H := H'.l7; clear H'; refine s_Q 1 [5] rfl (by kernel_rfl) (s_put rfl rfl (n_store 0 H rfl rfl rfl rfl (vs := [.int .i64 0]) rfl (by simp [u8, u32, Value.oneCell']) (by kernel_rfl) (by simp) (out := [.int .i64 (x.gen + 1), .int .i64 (x.epoch + 1), .int .i64 x.pages, .int .i64 start, .int .i64 len, .int .i64 0, .int .i64 x.seq]) rfl) ?_); rintro w H'; have H := H'.l7; clear H'; refine s_Q 1 [6] rfl (by kernel_rfl) (s_put rfl rfl (n_store 0 H rfl rfl rfl rfl (vs := [.int .i64 1]) rfl (by simp [u8, u32, Value.oneCell']) (by kernel_rfl) (by simp) (out := [.int .i64 (x.gen + 1), .int .i64 (x.epoch + 1), .int .i64 x.pages, .int .i64 start, .int .i64 len, .int .i64 0, .int .i64 1]) rfl) ?_); rintro w H'; have H := H'.l7; clear H'; refine s_end (k_seq (k_seq (q_region (Sep z _) (by kernel_rfl) (by kernel_rfl) H.drew (q_do rfl rfl rfl (d_loadAgg rfl rfl (vs := [.int .i64 (x.gen + 1), .int .i64 (x.epoch + 1), .int .i64 x.pages, .int .i64 start, .int .i64 len, .int .i64 0, .int .i64 1]) (by kernel_rfl) (fun _ hx => (hx.blk 0 rfl).part 0 7 _ rfl)) (q_do rfl rfl rfl (d_move rfl rfl) (q_do rfl rfl rfl (d_nilCheck rfl rfl) (q_do rfl rfl rfl (d_field rfl (k := 0) (r := 0) (by kernel_rfl) rfl rfl) (q_do rfl rfl rfl (d_load rfl rfl (by kernel_rfl) (fun _ hx => hx.cel 1 rfl 0 rfl)) (q_call rfl rfl rfl rfl rfl (fun w => Tryz.call68 _ w) (v := .int .i64 (D.n : Int)) (cq (sizeD_c _ _) (by rintro _ _ ⟨rfl, rfl⟩; exact ⟨rfl, rfl⟩) 5 [4, 0, 1, 2, 3] [1, 2, 3, 4, 0] rfl rfl rfl rfl) (q_call rfl rfl rfl rfl rfl (fun w => Tryz.call50 _ w) (v := .int .i64 (if (Sup.mk (x.gen + 1) (x.epoch + 1) x.pages start len 0 1).Ok (D.n : Int) then 0 else 1)) (cq (check_c (Sup.mk (x.gen + 1) (x.epoch + 1) x.pages start len 0 1) _ (by omega)) (by rintro _ _ ⟨rfl, rfl⟩; exact ⟨rfl, rfl⟩) 0 [] [] rfl rfl rfl rfl) (q_do rfl rfl rfl (d_neq rfl rfl rfl) (q_end (fun w H' => ?_)))))))))))))
  have H := H'.l7; clear H'; refine k_dec rfl (fun h2 => ?_) (fun h2 => ?_)
  ·refine k_seq (s_region (s_M 1 rfl rfl (s_end (k_ret (doneL rfl [.int .i64 1] ⟨rfl, trivial⟩ (v := .int .i64 1) rfl ?_))))); have H' := H.toPgs 5 rfl hpg
   have H := H'.l7; clear H'; have hn0 := hpg.nil_iff.1 (by simpa using h1)
   exact ⟨[blk ps [.pointer (some ⟨pd, 0, none⟩), .pointer (some ⟨pt, 0, none⟩), .int .i64 x.gen, .int .i64 x.epoch, .int .i64 x.pages, .int .i64 x.start, .int .i64 x.len, .int .i64 x.head, .int .i64 x.seq, .pointer (some ⟨pl, 0, none⟩), .map (some md), .bool false, mo] 108, blk pl [.pointer (some ⟨pd, 0, none⟩), .pointer (some ⟨pt, 0, none⟩), .int .i64 sL.gen, .int .i64 sL.epoch, .int .i64 sL.pages, .int .i64 sL.start, .int .i64 sL.len, .int .i64 sL.head, .int .i64 sL.seq, .int .i64 a, .int .i64 q, .int .i64 u, .bool b, .bool nu] 176, tblA pt, diskA pd D, pgsA md (ov rs) hq, poolA hq], .inr (.inl ⟨hn0, fun hk => absurd (if_pos hk) h2, rfl, rfl⟩), H.perm 7 [1, 2, 3, 4, 5, 6] rfl rfl⟩
  ·refine k_skip (k_seq (k_seq ?_)); have hoky : (swS x start len).Ok (D.n : Int) := Decidable.byContradiction fun g_ => h2 (fun e => absurd ((if_neg g_).symm.trans e) (by decide))
   replace H := H.f1; refine a_region (Sep z (blk ps [.pointer (some ⟨pd, 0, none⟩), .pointer (some ⟨pt, 0, none⟩), .int .i64 x.gen, .int .i64 x.epoch, .int .i64 x.pages, .int .i64 x.start, .int .i64 x.len, .int .i64 x.head, .int .i64 x.seq, .pointer (some ⟨pl, 0, none⟩), .map (some md), .bool false, mo] 108 :: blk b1 [.int .i64 (x.gen + 1), .int .i64 (x.epoch + 1), .int .i64 x.pages, .int .i64 start, .int .i64 len, .int .i64 0, .int .i64 1] 49 :: R)) 11 rfl (by kernel_rfl) (fun w' x' _ => ?_); have H' := H.ext0 x'; clear x' H; revert H'; generalize w' = w; intro H'
   have H := H'.l7; clear H'; refine a_do 0 rfl (by kernel_rfl) (by kernel_rfl) (by kernel_rfl) rfl rfl rfl (d_move rfl rfl) (H.pick 7 [0, 1] rfl) (a_do 1 rfl (by kernel_rfl) (by kernel_rfl) (by kernel_rfl) rfl rfl rfl (d_nilCheck rfl rfl) (H.pick 7 [0, 1] rfl) (a_do 2 rfl (by kernel_rfl) (by kernel_rfl) (by kernel_rfl) rfl rfl rfl (d_field rfl (k := 0) (r := 0) (by kernel_rfl) rfl rfl) (H.pick 7 [0, 1] rfl) (a_do 3 rfl (by kernel_rfl) (by kernel_rfl) (by kernel_rfl) rfl rfl rfl (d_load rfl rfl (by kernel_rfl) (fun _ hx => hx.cel 0 rfl 0 rfl)) (H.pick 7 [0, 1] rfl) (a_do 4 rfl (by kernel_rfl) (by kernel_rfl) (by kernel_rfl) rfl rfl rfl (d_move rfl rfl) (H.pick 7 [0, 1] rfl) (a_do 5 rfl (by kernel_rfl) (by kernel_rfl) (by kernel_rfl) rfl rfl rfl (d_nilCheck rfl rfl) (H.pick 7 [0, 1] rfl) (a_do 6 rfl (by kernel_rfl) (by kernel_rfl) (by kernel_rfl) rfl rfl rfl (d_field rfl (k := 1) (r := 1) (by kernel_rfl) rfl rfl) (H.pick 7 [0, 1] rfl) (a_do 7 rfl (by kernel_rfl) (by kernel_rfl) (by kernel_rfl) rfl rfl rfl (d_load rfl rfl (by kernel_rfl) (fun _ hx => hx.cel 0 rfl 1 rfl)) (H.pick 7 [0, 1] rfl) (a_do 8 rfl (by kernel_rfl) (by kernel_rfl) (by kernel_rfl) rfl rfl rfl (d_loadAgg rfl rfl (vs := [.int .i64 (x.gen + 1), .int .i64 (x.epoch + 1), .int .i64 x.pages, .int .i64 start, .int .i64 len, .int .i64 0, .int .i64 1]) (by kernel_rfl) (fun _ hx => (hx.blk 1 rfl).part 0 7 _ rfl)) (H.pick 7 [0, 1] rfl) (a_all [9] (by kernel_rfl) (by simp) (all1 (o_C rfl rfl rfl rfl rfl rfl (fun w => Tryz.call70 _ w) (save_c _ _ _ (swS x start len) hoky (fun i => by have := hver i; omega)) H.f3.f4 rfl ?_)))))))))))
   rintro _ w _ (⟨hsb, rfl, rfl⟩ | ⟨hsb, rfl, rfl⟩) H'
   ·have H := H'.l7; clear H'; refine a_and (H.pick 7 [2, 3] rfl) (a_do 10 rfl (by kernel_rfl) (by kernel_rfl) (by kernel_rfl) rfl rfl rfl (d_assign rfl rfl) (H.pick 7 [2, 3] rfl) (a_done (by kernel_rfl) (k_seq (s_region (s_M 2 rfl rfl (k_updA 58 (u := .bool (decide ((11 : Int) ≠ 0))) (v := .bool true) rfl (congrArg Value.bool (by decide)) (s_end (k_true rfl (k_seq (s_region (s_M 2 rfl rfl (s_end (k_ret ?_))))))))))))); refine doneL rfl [.int .i64 11] ⟨rfl, trivial⟩ (v := .int .i64 11) rfl ?_; have H' := H.toPgs 5 rfl hpg
    have H := H'.l7; clear H'; have hn0 := hpg.nil_iff.1 (by simpa using h1)
    exact ⟨[blk ps [.pointer (some ⟨pd, 0, none⟩), .pointer (some ⟨pt, 0, none⟩), .int .i64 x.gen, .int .i64 x.epoch, .int .i64 x.pages, .int .i64 x.start, .int .i64 x.len, .int .i64 x.head, .int .i64 x.seq, .pointer (some ⟨pl, 0, none⟩), .map (some md), .bool false, mo] 108, blk pl [.pointer (some ⟨pd, 0, none⟩), .pointer (some ⟨pt, 0, none⟩), .int .i64 sL.gen, .int .i64 sL.epoch, .int .i64 sL.pages, .int .i64 sL.start, .int .i64 sL.len, .int .i64 sL.head, .int .i64 sL.seq, .int .i64 a, .int .i64 q, .int .i64 u, .bool b, .bool nu] 176, tblA pt, diskA pd D.wf, pgsA md (ov rs) hq, poolA hq], .inr (.inr (.inl ⟨hn0, hoky, hsb, rfl, rfl⟩)), H.perm 7 [2, 4, 1, 0, 5, 6] rfl rfl⟩
   ·have H := H'.l7; clear H'; refine a_and (H.pick 7 [2, 3] rfl) (a_do 10 rfl (by kernel_rfl) (by kernel_rfl) (by kernel_rfl) rfl rfl rfl (d_assign rfl rfl) (H.pick 7 [2, 3] rfl) (a_done (by kernel_rfl) (k_seq (s_region (s_M 2 rfl rfl (k_updA 58 (u := .bool (decide ((0 : Int) ≠ 0))) (v := .bool false) rfl (congrArg Value.bool (by decide)) (s_end (k_false rfl (k_skip (k_seq (s_region (s_M 1 rfl rfl (s_do rfl rfl rfl (d_loadAgg rfl rfl (vs := [.int .i64 (x.gen + 1), .int .i64 (x.epoch + 1), .int .i64 x.pages, .int .i64 start, .int .i64 len, .int .i64 0, .int .i64 1]) (by kernel_rfl) (here ((H.blk 3 rfl).part 0 7 _ rfl))) ?_))))))))))))); refine s_Q 2 [2] rfl (by kernel_rfl) (s_put rfl rfl (n_store 2 H rfl rfl rfl rfl (vs := [.int .i64 (x.gen + 1), .int .i64 (x.epoch + 1), .int .i64 x.pages, .int .i64 start, .int .i64 len, .int .i64 0, .int .i64 1]) rfl (by simp [u8, u32, Value.oneCell']) (by kernel_rfl) (by simp) (out := [.pointer (some ⟨pd, 0, none⟩), .pointer (some ⟨pt, 0, none⟩), .int .i64 (x.gen + 1), .int .i64 (x.epoch + 1), .int .i64 x.pages, .int .i64 start, .int .i64 len, .int .i64 0, .int .i64 1, .pointer (some ⟨pl, 0, none⟩), .map (some md), .bool false, mo]) rfl) ?_); rintro w H'; have H := H'.l7; clear H'; refine s_end (k_seq ?_); replace H := H.f3.f3; refine l_region (Sep z (blk ps [.pointer (some ⟨pd, 0, none⟩), .pointer (some ⟨pt, 0, none⟩), .int .i64 (x.gen + 1), .int .i64 (x.epoch + 1), .int .i64 x.pages, .int .i64 start, .int .i64 len, .int .i64 0, .int .i64 1, .pointer (some ⟨pl, 0, none⟩), .map (some md), .bool false, mo] 108 :: blk b1 [.int .i64 (x.gen + 1), .int .i64 (x.epoch + 1), .int .i64 x.pages, .int .i64 start, .int .i64 len, .int .i64 0, .int .i64 1] 49 :: R)) 14 rfl (by kernel_rfl) (fun w' x' _ => ?_)
    have H' := H.ext0 x'; clear x' H; revert H'; generalize w' = w; intro H'
    have H := H'.l7; clear H'; refine l_do 0 (by kernel_rfl) rfl rfl (by kernel_rfl) (by kernel_rfl) (by kernel_rfl) rfl rfl rfl (d_move rfl rfl) (H.pick 7 [0, 1] rfl) (l_do 1 (by kernel_rfl) rfl rfl (by kernel_rfl) (by kernel_rfl) (by kernel_rfl) rfl rfl rfl (d_move rfl rfl) (H.pick 7 [0, 1] rfl) (l_do 2 (by kernel_rfl) rfl rfl (by kernel_rfl) (by kernel_rfl) (by kernel_rfl) rfl rfl rfl (d_nilCheck rfl rfl) (H.pick 7 [0, 1] rfl) (l_do 3 (by kernel_rfl) rfl rfl (by kernel_rfl) (by kernel_rfl) (by kernel_rfl) rfl rfl rfl (d_field rfl (k := 0) (r := 0) (by kernel_rfl) rfl rfl) (H.pick 7 [0, 1] rfl) (l_do 4 (by kernel_rfl) rfl rfl (by kernel_rfl) (by kernel_rfl) (by kernel_rfl) rfl rfl rfl (d_load rfl rfl (by kernel_rfl) (fun _ hx => hx.cel 0 rfl 0 rfl)) (H.pick 7 [0, 1] rfl) (l_do 5 (by kernel_rfl) rfl rfl (by kernel_rfl) (by kernel_rfl) (by kernel_rfl) rfl rfl rfl (d_move rfl rfl) (H.pick 7 [0, 1] rfl) (l_do 6 (by kernel_rfl) rfl rfl (by kernel_rfl) (by kernel_rfl) (by kernel_rfl) rfl rfl rfl (d_nilCheck rfl rfl) (H.pick 7 [0, 1] rfl) (l_do 7 (by kernel_rfl) rfl rfl (by kernel_rfl) (by kernel_rfl) (by kernel_rfl) rfl rfl rfl (d_field rfl (k := 1) (r := 1) (by kernel_rfl) rfl rfl) (H.pick 7 [0, 1] rfl) (l_do 8 (by kernel_rfl) rfl rfl (by kernel_rfl) (by kernel_rfl) (by kernel_rfl) rfl rfl rfl (d_load rfl rfl (by kernel_rfl) (fun _ hx => hx.cel 0 rfl 1 rfl)) (H.pick 7 [0, 1] rfl) (l_do 9 (by kernel_rfl) rfl rfl (by kernel_rfl) (by kernel_rfl) (by kernel_rfl) rfl rfl rfl (d_loadAgg rfl rfl (vs := [.int .i64 (x.gen + 1), .int .i64 (x.epoch + 1), .int .i64 x.pages, .int .i64 start, .int .i64 len, .int .i64 0, .int .i64 1]) (by kernel_rfl) (fun _ hx => (hx.blk 1 rfl).part 0 7 _ rfl)) (H.pick 7 [0, 1] rfl) (l_all [10] (by kernel_rfl) (by simp) (all1 (o_C rfl rfl rfl rfl rfl rfl (fun w => Tryz.call67 _ w) (lnewD_c _ _ _ (swS x start len) (by exact hoky)) H.f2 rfl ?_))))))))))))
    rintro _ w _ ⟨pl2, rfl, rfl⟩ H'; have H := H'.l8; clear H'; refine l_and (fun _ => (H.pick 8 [2, 3] rfl)) (l_do 11 (by kernel_rfl) rfl rfl (by kernel_rfl) (by kernel_rfl) (by kernel_rfl) rfl rfl rfl (d_nilCheck rfl rfl) (H.pick 8 [2, 3] rfl) (l_do 12 (by kernel_rfl) rfl rfl (by kernel_rfl) (by kernel_rfl) (by kernel_rfl) rfl rfl rfl (d_field rfl (k := 9) (r := 9) (by kernel_rfl) rfl rfl) (H.pick 8 [2, 3] rfl) (l_all [13] (by kernel_rfl) (by simp) (all1 (o_put rfl rfl rfl (n_store 2 H rfl rfl rfl rfl (vs := [.pointer (some ⟨pl2, 0, none⟩)]) rfl (by simp [u8, u32, Value.oneCell']) (by kernel_rfl) (by simp) (out := [.pointer (some ⟨pd, 0, none⟩), .pointer (some ⟨pt, 0, none⟩), .int .i64 (x.gen + 1), .int .i64 (x.epoch + 1), .int .i64 x.pages, .int .i64 start, .int .i64 len, .int .i64 0, .int .i64 1, .pointer (some ⟨pl2, 0, none⟩), .map (some md), .bool false, mo]) rfl) ?_))))); rintro w H'; have H := H'.l8; clear H'; refine l_and (fun h => absurd rfl h) (l_done (by kernel_rfl) (k_seq (s_region (s_M 1 rfl rfl (s_end (k_ret (doneL rfl [.int .i64 0] ⟨rfl, trivial⟩ (v := .int .i64 0) rfl ?_))))))); have H' := H.toPgs 6 rfl hpg
    have H := H'.l8; clear H'; have hn0 := hpg.nil_iff.1 (by simpa using h1)
    exact ⟨[blk ps [.pointer (some ⟨pd, 0, none⟩), .pointer (some ⟨pt, 0, none⟩), .int .i64 (x.gen + 1), .int .i64 (x.epoch + 1), .int .i64 x.pages, .int .i64 start, .int .i64 len, .int .i64 0, .int .i64 1, .pointer (some ⟨pl2, 0, none⟩), .map (some md), .bool false, mo] 108, blk pl2 [.pointer (some ⟨pd, 0, none⟩), .pointer (some ⟨pt, 0, none⟩), .int .i64 ((swS x start len).gen), .int .i64 ((swS x start len).epoch), .int .i64 ((swS x start len).pages), .int .i64 ((swS x start len).start), .int .i64 ((swS x start len).len), .int .i64 ((swS x start len).head), .int .i64 ((swS x start len).seq), .int .i64 ((swS x start len).head), .int .i64 ((swS x start len).seq), .int .i64 0, .bool false, .bool (decide ((swS x start len).epoch < 4294967296))] 176, tblA pt, diskA pd (svD D (swS x start len)), pgsA md (ov rs) hq, poolA hq], .inr (.inr (.inr ⟨hn0, hoky, hsb, _, hS.switched he1 hn0 hqb hoky, rfl, rfl⟩)), H.perm 8 [2, 0, 4, 1, 6, 7] rfl rfl⟩
end Go.Proofs.YtbegkbjigbkljaaGreatDoor
namespace Go.Proofs.YtbegkbjigbkljaaGreatDoor
structure StG where
  x : Sup
  B : Nat → Pg
  rs : List Rc
  ptl : List (List UInt8)
  a : Int
  q : Int
  u : Int
  b : Bool
  sure : Nat
def StG.M (G : StG) : Nat → Pg := pgMap (ov G.rs) G.B
def StG.home (G : StG) : Prop := ∀ n, ov G.rs n = none
structure StX where
  pl : Nat
  pt : Nat
  md : Nat
  mm : Nat
  sL : Sup
  nu : Bool
  hq : Hp
abbrev Txn := Option (Pgs × Nat)
def ownV (mm : Nat) : Txn → Value
  | none => .map none
  | some _ => .map (some mm)
def ownL (mm : Nat) (hq : Hp) : Txn → List Asn
  | none => []
  | some o => [pgsC mm o.1 o.2 hq]
abbrev stoB (ps pd pt md : Nat) (x : Sup) (lp : Value) (un : Bool) (mo : Value) : Asn := blk ps [.pointer (some ⟨pd, 0, none⟩), .pointer (some ⟨pt, 0, none⟩), .int .i64 x.gen, .int .i64 x.epoch, .int .i64 x.pages, .int .i64 x.start, .int .i64 x.len, .int .i64 x.head, .int .i64 x.seq, lp, .map (some md), .bool un, mo] 108
abbrev logB (pl pd pt : Nat) (sL : Sup) (a q u : Int) (b nu : Bool) : Asn := blk pl [.pointer (some ⟨pd, 0, none⟩), .pointer (some ⟨pt, 0, none⟩), .int .i64 sL.gen, .int .i64 sL.epoch, .int .i64 sL.pages, .int .i64 sL.start, .int .i64 sL.len, .int .i64 sL.head, .int .i64 sL.seq, .int .i64 a, .int .i64 q, .int .i64 u, .bool b, .bool nu] 176
def stoL (ps pd : Nat) (D : Dsk) (G : StG) (own : Txn) (X : StX) : List Asn :=
  [stoB ps pd X.pt X.md G.x (.pointer (some ⟨X.pl, 0, none⟩)) own.isSome (ownV X.mm own), logB X.pl pd X.pt X.sL G.a G.q G.u G.b X.nu, tblA X.pt, diskA pd D, pgsA X.md (ov G.rs) X.hq, poolA X.hq] ++ ownL X.mm X.hq own
structure StP (D : Dsk) (G : StG) (own : Txn) (X : StX) : Prop where
  inv : SInv D G.x G.B G.rs G.ptl G.a G.q G.u G.b G.sure
  l : X.sL.start = G.x.start ∧ X.sL.len = G.x.len ∧ X.sL.epoch = G.x.epoch
  ok : X.sL.Ok (D.n : Int)
  nu : X.nu = decide (X.sL.epoch < 4294967296)
  own : ∀ o, own = some o → o.2 ≤ 40 ∧ ∀ n, (o.1 n).isSome = true → (n : Int) < G.x.pages
def stoA (ps pd : Nat) (D : Dsk) (G : StG) (own : Txn) : Asn := fun h => ∃ X, StP D G own X ∧ seps (stoL ps pd D G own X) h
structure Fine (D : Dsk) (G : StG) (m : Nat) : Prop where
  clean : Clean D
  b : G.b = false
  ver : ∀ i, (D.ver i).length ≤ m
  gen : G.x.gen ≤ m
  epoch : G.x.epoch ≤ m
  q : G.q ≤ m
theorem Fine.le {D : Dsk} {G : StG} {m m' : Nat} (h : Fine D G m) (e : m ≤ m') : Fine D G m' :=
  ⟨h.clean, h.b, fun i => Nat.le_trans (h.ver i) e, by have := h.gen; omega, by have := h.epoch; omega, by have := h.q; omega⟩
variable {z w : World} {Γ : List Asn} {ps pd : Nat} {D : Dsk} {G : StG} {own : Txn}
theorem Sep.sto (H : Sep z (stoA ps pd D G own :: Γ) w) : ∃ X, StP D G own X ∧ Sep z (stoL ps pd D G own X ++ Γ) w :=
  H.into (p := fun X => StP D G own X) (As := fun X => stoL ps pd D G own X) (fun _ q => q)
theorem Sep.toSto {X : StX} (n : Nat) (H : Sep z Γ w) (hX : StP D G own X) (hn : Γ.take n = stoL ps pd D G own X) : Sep z (stoA ps pd D G own :: Γ.drop n) w :=
  H.made n (fun h q => ⟨X, hX, by rwa [hn] at q⟩)
theorem stoA.inv {h : Hp} (a : stoA ps pd D G own h) : SInv D G.x G.B G.rs G.ptl G.a G.q G.u G.b G.sure := by
  obtain ⟨X, hX, _⟩ := a; exact hX.inv
theorem stoA.txn {h : Hp} {o : Pgs × Nat} (a : stoA ps pd D G (some o) h) : o.2 ≤ 40 ∧ ∀ n, (o.1 n).isSome = true → (n : Int) < G.x.pages := by
  obtain ⟨X, hX, _⟩ := a; exact hX.own o rfl
def curPg (M : Nat → Pg) : Txn → Nat → Pg
  | none, n => M n
  | some o, n => (o.1 n).getD (M n)
def opG (x : Sup) (B : Nat → Pg) : StG := ⟨opS x, B, [], [], 0, 1, 0, false, 0⟩
theorem opG_M (x : Sup) (B : Nat → Pg) : (opG x B).M = B := rfl
theorem home_M {G : StG} (h : G.home) : G.M = G.B := by funext n; show ((ov G.rs) n).getD _ = _; rw [h n]; rfl
/-! ### what is asked of a store -/
theorem open_s (pd : Nat) (D : Dsk) (x : Sup) (B : Nat → Pg) (Gd : List Rc → Prop) (m : Nat) (hO : OInv D x B Gd) (hcl : Clean D) (hg : x.gen ≤ m ∧ x.epoch ≤ m) (hm : m ≤ 1000000000) :
    Cn Tryz.prog 26 [.pointer (some ⟨pd, 0, none⟩)] [diskA pd D] (fun v Γ => ∃ (ps : Nat) (D2 : Dsk) (got : List Rc), Gd got ∧ Fine D2 (opG x (pgMap (ov got) B)) (m + 1) ∧ D2.n = D.n ∧ v = .tuple #[.pointer (some ⟨ps, 0, none⟩), .int .i64 0] ∧ Γ = [stoA ps pd D2 (opG x (pgMap (ov got) B)) none]) := by
  intro z R w H
  refine Ret.mono (sopen_c pd D x B Gd hO hcl (by omega) (by omega) z R w H) ?_
  rintro v w' ⟨Γ', ⟨ps, pl, pt, md, hq, D2, got, h1, h2, h3, h4, h5, rfl, rfl⟩, H'⟩
  refine ⟨_, ⟨ps, D2, got, h1, ⟨h3, rfl, fun i => by rw [h5]; simp, ?_, ?_, ?_⟩, h4, rfl, rfl⟩, H'.toSto (X := ⟨pl, pt, md, 0, opS x, decide ((opS x).epoch < 4294967296), hq⟩) 6 ⟨h2, ⟨rfl, rfl, rfl⟩, h2.ok, rfl, fun o e => (by cases e)⟩ rfl⟩
  · show x.gen + 1 ≤ _; omega
  · show x.epoch + 1 ≤ _; omega
  · show (1 : Int) ≤ _; omega
theorem begin_s (ps pd : Nat) (D : Dsk) (G : StG) : Cn Tryz.prog 18 [.pointer (some ⟨ps, 0, none⟩)] [stoA ps pd D G none] (fun v Γ => v = .int .i64 0 ∧ Γ = [stoA ps pd D G (some (noPgs, 0))]) := by
  intro z R w H
  obtain ⟨X, hX, H⟩ := H.sto
  refine Ret.mono (Cn.at (begin_c ps pd X.pt X.md G.x _ _) H 6 [0, 1, 2, 3, 4, 5] rfl rfl) ?_
  rintro v w' ⟨Γ', ⟨rfl, m, rfl⟩, H'⟩
  have H2 := H'.mono 1 (B := pgsC m noPgs 0 X.hq) rfl (fun h q => ⟨[], 0, PgsIn.none _ _, rfl, q⟩)
  have H3 := H2.pick 7 [0, 2, 3, 4, 5, 6, 1] rfl
  exact ⟨_, ⟨rfl, rfl⟩, H3.toSto (X := ⟨X.pl, X.pt, X.md, m, X.sL, X.nu, X.hq⟩) 7 ⟨hX.inv, hX.l, hX.ok, hX.nu, fun o e => by cases e; exact ⟨by omega, fun n h => (by cases h)⟩⟩ rfl⟩
theorem super_s (ps pd : Nat) (D : Dsk) (G : StG) (own : Txn) : Cn Tryz.prog 13 [.pointer (some ⟨ps, 0, none⟩)] [stoA ps pd D G own] (fun v Γ => v = .agg #[.int .i64 G.x.gen, .int .i64 G.x.epoch, .int .i64 G.x.pages, .int .i64 G.x.start, .int .i64 G.x.len, .int .i64 G.x.head, .int .i64 G.x.seq] ∧ Γ = [stoA ps pd D G own]) := by
  intro z R w H
  obtain ⟨X, hX, H⟩ := H.sto
  cases own with
  | none =>
    refine Ret.mono (Cn.at (super_c ps pd X.pt X.md G.x _ _ _) H 6 [0, 1, 2, 3, 4, 5] rfl rfl) ?_
    rintro v w' ⟨Γ', ⟨rfl, rfl⟩, H'⟩
    exact ⟨_, ⟨rfl, rfl⟩, H'.toSto (X := X) 6 hX rfl⟩
  | some o =>
    refine Ret.mono (Cn.at (super_c ps pd X.pt X.md G.x _ _ _) H 7 [0, 1, 2, 3, 4, 5, 6] rfl rfl) ?_
    rintro v w' ⟨Γ', ⟨rfl, rfl⟩, H'⟩
    exact ⟨_, ⟨rfl, rfl⟩, H'.toSto (X := X) 7 hX rfl⟩
theorem dirty_s (ps pd : Nat) (D : Dsk) (G : StG) (own : Txn) : Cn Tryz.prog 51 [.pointer (some ⟨ps, 0, none⟩)] [stoA ps pd D G own] (fun v Γ => ∃ ks : List Int, KsOk (ov G.rs) ks ∧ Γ = [grow 3 1 v ks.length (ks.map (Value.int .i64)), stoA ps pd D G own]) := by
  intro z R w H
  obtain ⟨X, hX, H⟩ := H.sto
  have hk := hX.inv.ok.2
  have hfb : ∀ n, (ov G.rs n).isSome = true → n < 1024 := fun n h => by have := hX.inv.ovb h; omega
  cases own with
  | none =>
    refine Ret.mono (Cn.at (sdirty_c ps pd X.pt X.md G.x _ _ _ (ov G.rs) X.hq hfb) H 6 [0, 4, 1, 2, 3, 5] rfl rfl) ?_
    rintro v w' ⟨Γ', ⟨ks, hks, rfl⟩, H'⟩
    have H3 := H'.pick 7 [1, 3, 4, 5, 2, 6, 0] rfl
    have H4 := H3.toSto (X := X) (ps := ps) (pd := pd) (D := D) (G := G) (own := none) 6 hX rfl
    exact ⟨_, ⟨ks, hks, rfl⟩, H4.pick 2 [1, 0] rfl⟩
  | some o =>
    refine Ret.mono (Cn.at (sdirty_c ps pd X.pt X.md G.x _ _ _ (ov G.rs) X.hq hfb) H 7 [0, 4, 1, 2, 3, 5, 6] rfl rfl) ?_
    rintro v w' ⟨Γ', ⟨ks, hks, rfl⟩, H'⟩
    have H3 := H'.pick 8 [1, 3, 4, 5, 2, 6, 7, 0] rfl
    have H4 := H3.toSto (X := X) (ps := ps) (pd := pd) (D := D) (G := G) (own := some o) 7 hX rfl
    exact ⟨_, ⟨ks, hks, rfl⟩, H4.pick 2 [1, 0] rfl⟩
theorem write_s (ps pd : Nat) (D : Dsk) (G : StG) (g : Pgs) (k : Nat) (n : Nat) (hn : (n : Int) < G.x.pages) (p : Pg) (hp : p.Ok) (bv : Value) (A : Asn) (hA : ∀ h, A h → rdH 1 bv 240 (p.body.map u8) h) :
    Cn Tryz.prog 19 [.pointer (some ⟨ps, 0, none⟩), .int .i64 (n : Int), .agg #[.int .i64 p.kind, bv]] [stoA ps pd D G (some (g, k)), A] (fun v Γ => ((g n = none ∧ 40 ≤ k) ∧ v = .int .i64 16 ∧ Γ = [stoA ps pd D G (some (g, k)), A]) ∨ (¬ (g n = none ∧ 40 ≤ k) ∧ v = .int .i64 0 ∧ Γ = [stoA ps pd D G (some (pgSet g n p, k + (if (g n).isSome then 0 else 1))), A])) := by
  intro z R w H
  obtain ⟨X, hX, H⟩ := H.sto
  obtain ⟨ho1, ho2⟩ := hX.own _ rfl
  refine Ret.mono (Cn.at (swrite_c ps pd X.pt X.md X.mm G.x _ g k X.hq n hn p hp bv A hA) H 8 [0, 6, 5, 7, 1, 2, 3, 4] rfl rfl) ?_
  rintro v w' ⟨Γ', (⟨h1, rfl, rfl⟩ | ⟨h1, hq2, hs, rfl, rfl⟩), H'⟩
  · have H3 := H'.pick 8 [0, 4, 5, 6, 7, 2, 1, 3] rfl
    exact ⟨_, .inl ⟨h1, rfl, rfl⟩, H3.toSto (X := X) (ps := ps) (pd := pd) (D := D) (G := G) (own := some (g, k)) 7 hX rfl⟩
  · have H3 := (H'.pick 8 [0, 4, 5, 6, 7, 2, 1, 3] rfl).mono 4 (B := pgsA X.md (ov G.rs) hq2) rfl (fun h q => pgsA.le hs h q)
    refine ⟨_, .inr ⟨h1, rfl, rfl⟩, H3.toSto (X := ⟨X.pl, X.pt, X.md, X.mm, X.sL, X.nu, hq2⟩) (ps := ps) (pd := pd) (D := D) (G := G) (own := some (pgSet g n p, k + (if (g n).isSome then 0 else 1))) 7 ⟨hX.inv, hX.l, hX.ok, hX.nu, fun o e => ?_⟩ rfl⟩
    cases e
    refine ⟨?_, fun i hi => ?_⟩
    · show k + (if (g n).isSome then 0 else 1) ≤ 40
      split
      · exact ho1
      · rename_i hs2
        have hgn : g n = none := by simpa using hs2
        have : ¬ 40 ≤ k := fun e => h1 ⟨hgn, e⟩
        omega
    · have hi' : (pgSet g n p i).isSome = true := hi
      unfold pgSet at hi'
      split at hi'
      · rename_i e; subst e; exact hn
      · exact ho2 i hi'
theorem read_s (ps pd : Nat) (D : Dsk) (G : StG) (own : Txn) (n : Nat) (hn : (n : Int) < G.x.pages) (hf1 : D.f1 = 0) (q : Pg) (hq : q = curPg G.M own n) :
    Cn Tryz.prog 22 [.pointer (some ⟨ps, 0, none⟩), .int .i64 (n : Int)] [stoA ps pd D G own] (fun v Γ => (q = noPg ∧ v = .tuple #[.agg #[.int .i64 0, .slice none 0 0], .int .i64 0] ∧ Γ = [stoA ps pd D G own]) ∨ (q.Ok ∧ ∃ v1, v = .tuple #[.agg #[.int .i64 q.kind, v1], .int .i64 0] ∧ Γ = [grow 5 1 v1 240 (q.body.map u8), stoA ps pd D G own])) := by
  intro z R w H
  obtain ⟨X, hX, H⟩ := H.sto
  cases own with
  | none =>
    refine Ret.mono (Cn.at (sreadN_c ps pd X.pt X.md G.x _ _ (ov G.rs) X.hq D n hn hf1 hX.inv.ok q (G.B n) hq (fun e => hX.inv.cur hn e)) H 6 [0, 2, 3, 4, 5, 1] rfl rfl) ?_
    rintro v w' ⟨Γ', (⟨h1, rfl, rfl⟩ | ⟨h1, v1, rfl, rfl⟩), H'⟩
    · have H3 := H'.pick 6 [0, 5, 1, 2, 3, 4] rfl
      exact ⟨_, .inl ⟨h1, rfl, rfl⟩, H3.toSto (X := X) (ps := ps) (pd := pd) (D := D) (G := G) (own := none) 6 hX rfl⟩
    · have H3 := H'.pick 7 [1, 6, 2, 3, 4, 5, 0] rfl
      have H4 := H3.toSto (X := X) (ps := ps) (pd := pd) (D := D) (G := G) (own := none) 6 hX rfl
      exact ⟨_, .inr ⟨h1, v1, rfl, rfl⟩, H4.pick 2 [1, 0] rfl⟩
  | some o =>
    refine Ret.mono (Cn.at (sreadO_c ps pd X.pt X.md X.mm G.x _ _ (ov G.rs) o.1 o.2 X.hq D n hn hf1 hX.inv.ok q (G.B n) (by rw [hq]; show (o.1 n).getD ((ov G.rs n).getD (G.B n)) = _; cases o.1 n <;> rfl) (fun e => hX.inv.cur hn (by cases h1 : o.1 n with | none => rw [h1] at e; exact e | some y => rw [h1] at e; cases e))) H 7 [0, 2, 3, 4, 6, 5, 1] rfl rfl) ?_
    rintro v w' ⟨Γ', (⟨h1, rfl, rfl⟩ | ⟨h1, v1, rfl, rfl⟩), H'⟩
    · have H3 := H'.pick 7 [0, 6, 1, 2, 3, 5, 4] rfl
      exact ⟨_, .inl ⟨h1, rfl, rfl⟩, H3.toSto (X := X) (ps := ps) (pd := pd) (D := D) (G := G) (own := some o) 7 hX rfl⟩
    · have H3 := H'.pick 8 [1, 7, 2, 3, 4, 6, 5, 0] rfl
      have H4 := H3.toSto (X := X) (ps := ps) (pd := pd) (D := D) (G := G) (own := some o) 7 hX rfl
      exact ⟨_, .inr ⟨h1, v1, rfl, rfl⟩, H4.pick 2 [1, 0] rfl⟩
theorem commit_s (ps pd : Nat) (D : Dsk) (G : StG) (g : Pgs) (k m : Nat) (hF : Fine D G m) (hm : m ≤ 1000000000) :
    Cn Tryz.prog 21 [.pointer (some ⟨ps, 0, none⟩)] [stoA ps pd D G (some (g, k))] (fun v Γ => ∃ (D2 : Dsk) (G2 : StG), Fine D2 G2 (m + 2) ∧ D2.n = D.n ∧ (G2.M = curPg G.M (some (g, k)) ∧ ∀ n, (g n).isSome = true → (ov G2.rs n).isSome = true) ∧ (G2.x = G.x ∨ G2.x = ckS G.x G.a G.q) ∧ v = .int .i64 0 ∧ Γ = [stoA ps pd D2 G2 none]) := by
  intro z R w H
  obtain ⟨X, hX, H⟩ := H.sto
  obtain ⟨ho1, ho2⟩ := hX.own _ rfl
  have h1 := hF.gen
  have h2 := hF.epoch
  have h3 := hF.q
  have hL := hX.l
  have hc := ckS_f G.x G.a G.q
  refine Ret.mono (Cn.at (commit_c ps pd X.pt X.pl X.md X.mm G.x X.sL X.nu X.hq g k D G.B G.rs G.ptl G.a G.q G.u G.b G.sure hX.inv hX.l hX.ok hX.nu (by omega) (fun i => by have := hF.ver i; omega) ho2 ho1) H 7 [0, 1, 2, 3, 4, 6, 5] rfl rfl) ?_
  rintro v w' ⟨Γ', (⟨h4, rfl, rfl⟩ | ⟨h4, hq2, D2, x2, B2, rs2, a2, u2, sure2, hs, hS2, ⟨hM2, hsm2⟩, hx2, hcl2, hD2, rfl, rfl⟩ | ⟨_, c, hq2, D2, x2, B2, rs2, ptl2, a2, q2, u2, b2, sure2, hne, hw, _⟩), H'⟩
  · subst h4
    have hg : ∀ n, g n = none := H.says 6 rfl (fun h q => by obtain ⟨es, clk, h1, h2, _⟩ := q; exact h1.nil_iff.1 h2)
    exact ⟨_, ⟨D, G, hF.le (by omega), rfl, ⟨by funext n; show _ = (g n).getD _; rw [hg]; rfl, fun n hn => by rw [hg] at hn; cases hn⟩, .inl rfl, rfl, rfl⟩, H'.toSto (X := X) 6 ⟨hX.inv, hX.l, hX.ok, hX.nu, fun o e => (by cases e)⟩ rfl⟩
  · have hx3 : x2.start = G.x.start ∧ x2.len = G.x.len ∧ x2.epoch = G.x.epoch ∧ x2.gen ≤ G.x.gen + 1 ∧ G.x.gen ≤ x2.gen := by
      rcases hx2 with rfl | rfl
      · exact ⟨rfl, rfl, rfl, by omega, by omega⟩
      · exact ⟨rfl, rfl, rfl, by omega, by omega⟩
    refine ⟨_, ⟨D2, ⟨x2, B2, rs2, [], a2, G.q + 1, u2, false, sure2⟩, ⟨hcl2 hF.clean, rfl, fun i => by have := hD2.2 i; have := hF.ver i; omega, by show x2.gen ≤ _; omega, by show x2.epoch ≤ _; omega, by show G.q + 1 ≤ _; omega⟩, hD2.1, ⟨?_, hsm2⟩, hx2, rfl, rfl⟩, H'.toSto (X := ⟨X.pl, X.pt, X.md, X.mm, X.sL, X.nu, hq2⟩) 6 ⟨hS2, by show X.sL.start = x2.start ∧ X.sL.len = x2.len ∧ X.sL.epoch = x2.epoch; omega, by rw [hD2.1]; exact hX.ok, hX.nu, fun o e => (by cases e)⟩ rfl⟩
    show pgMap (ov rs2) B2 = _
    rw [hM2, pgMap_ov]; rfl
  · rcases hw with g | g
    · exact absurd hF.clean g
    · omega
theorem sync_s (ps pd : Nat) (D : Dsk) (G : StG) (m : Nat) (hF : Fine D G m) : Cn Tryz.prog 23 [.pointer (some ⟨ps, 0, none⟩)] [stoA ps pd D G none] (fun v Γ => v = .int .i64 0 ∧ Fine D.fl { G with sure := G.rs.length } m ∧ Γ = [stoA ps pd D.fl { G with sure := G.rs.length } none]) := by
  intro z R w H
  obtain ⟨X, hX, H⟩ := H.sto
  refine Ret.mono (Cn.at (ssync_c ps pd X.pt X.md G.x _ _ D) H 6 [0, 3, 1, 2, 4, 5] rfl rfl) ?_
  rintro v w' ⟨Γ', (⟨h1, _⟩ | ⟨_, rfl, rfl⟩), H'⟩
  · exact absurd h1 hF.clean.flb
  · have H3 := H'.pick 6 [0, 2, 3, 1, 4, 5] rfl
    exact ⟨_, ⟨rfl, ⟨hF.clean.fl, hF.b, fun i => Nat.zero_le _, hF.gen, hF.epoch, hF.q⟩, rfl⟩, H3.toSto (X := X) 6 ⟨hX.inv.flush, hX.l, hX.ok, hX.nu, fun o e => (by cases e)⟩ rfl⟩
def swG (G : StG) (s l : Int) : StG := ⟨swS G.x s l, G.B, [], [], 0, 1, 0, false, 0⟩
end Go.Proofs.YtbegkbjigbkljaaGreatDoor
namespace Go.Proofs.YtbegkbjigbkljaaGreatDoor
structure Bnd (D : Dsk) (G : StG) (m : Nat) : Prop where
  ver : ∀ i, (D.ver i).length ≤ m
  gen : G.x.gen ≤ m
  epoch : G.x.epoch ≤ m
  q : G.q ≤ m
theorem Bnd.le {D : Dsk} {G : StG} {m m' : Nat} (h : Bnd D G m) (e : m ≤ m') : Bnd D G m' :=
  ⟨fun i => by have := h.ver i; omega, by have := h.gen; omega, by have := h.epoch; omega, by have := h.q; omega⟩
theorem Fine.bnd {D : Dsk} {G : StG} {m : Nat} (h : Fine D G m) : Bnd D G m := ⟨h.ver, h.gen, h.epoch, h.q⟩
theorem Bnd.fine {D : Dsk} {G : StG} {m : Nat} (h : Bnd D G m) (a : Clean D ∧ G.b = false) : Fine D G m := ⟨a.1, a.2, h.ver, h.gen, h.epoch, h.q⟩
structure Mv (D : Dsk) (G : StG) (D2 : Dsk) (G2 : StG) : Prop where
  n : D2.n = D.n
  M : G2.M = G.M
  pages : G2.x.pages = G.x.pages
  sure : G.sure = G.rs.length → G2.sure = G2.rs.length
theorem Mv.refl (D : Dsk) (G : StG) : Mv D G D G := ⟨rfl, rfl, rfl, fun h => h⟩
theorem Mv.trans {D D2 D3 : Dsk} {G G2 G3 : StG} (h : Mv D G D2 G2) (h' : Mv D2 G2 D3 G3) : Mv D G D3 G3 := ⟨h'.n.trans h.n, h'.M.trans h.M, h'.pages.trans h.pages, fun e => h'.sure (h.sure e)⟩
theorem check_g (ps pd : Nat) (D : Dsk) (G : StG) (m : Nat) (hF : Bnd D G m) (hm : m ≤ 1000000000) :
    Cn Tryz.prog 52 [.pointer (some ⟨ps, 0, none⟩)] [stoA ps pd D G none] (fun v Γ => ∃ (c : Int) (D2 : Dsk) (G2 : StG), Bnd D2 G2 (m + 1) ∧ Mv D G D2 G2 ∧ (G2.x.start = G.x.start ∧ G2.x.len = G.x.len) ∧ (Clean D ∧ G.b = false → c = 0 ∧ (Clean D2 ∧ G2.b = false) ∧ G2.home) ∧ v = .int .i64 c ∧ Γ = [stoA ps pd D2 G2 none]) := by
  intro z R w H
  obtain ⟨X, hX, H⟩ := H.sto
  have h1 := hF.gen
  have h2 := hF.epoch
  have h3 := hF.q
  refine Ret.mono (Cn.at (check_pt_c ps pd X.pt X.pl X.md G.x X.sL _ X.nu X.hq D G.B G.rs G.ptl G.a G.q G.u G.b G.sure hX.inv hX.l (by omega) (fun i => by have := hF.ver i; omega)) H 6 [0, 1, 2, 3, 4, 5] rfl rfl) ?_
  rintro v w' ⟨Γ', (⟨hn, hb, hu, rfl, rfl⟩ | ⟨D2, hne, hS2, hcl2, hn2, hv2, rfl, rfl⟩ | ⟨c, D2, sure2, hne, hw, ⟨hS2, hsu⟩, hn2, hv2, rfl, rfl⟩), H'⟩
  · exact ⟨_, ⟨0, D, G, hF.le (by omega), Mv.refl D G, ⟨rfl, rfl⟩, fun a => ⟨rfl, a, hn⟩, rfl, rfl⟩, H'.toSto (X := X) 6 hX rfl⟩
  · exact ⟨_, ⟨0, D2, ⟨ckS G.x G.a G.q, pgMap (ov G.rs) G.B, [], [], G.a, G.q, 0, false, 0⟩, ⟨fun i => by rw [hv2]; simp, by show G.x.gen + 1 ≤ _; omega, by show G.x.epoch ≤ _; omega, by show G.q ≤ _; omega⟩, ⟨hn2, rfl, rfl, fun _ => rfl⟩, ⟨rfl, rfl⟩, fun a => ⟨rfl, ⟨hcl2 a.1, rfl⟩, fun _ => rfl⟩, rfl, rfl⟩, H'.toSto (X := X) 6 ⟨hS2, hX.l, by rw [hn2]; exact hX.ok, hX.nu, fun o e => (by cases e)⟩ rfl⟩
  · have hs2 := hS2.p.sure
    exact ⟨_, ⟨c, D2, { G with sure := sure2 }, ⟨fun i => by have := hv2 i; have := hF.ver i; omega, by show G.x.gen ≤ _; omega, by show G.x.epoch ≤ _; omega, by show G.q ≤ _; omega⟩, ⟨hn2, rfl, rfl, fun e => by show sure2 = G.rs.length; omega⟩, ⟨rfl, rfl⟩, fun a => by
      rcases hw with g | g
      · exact absurd a.1 g
      · omega, rfl, rfl⟩, H'.toSto (X := X) 6 ⟨hS2, hX.l, by rw [hn2]; exact hX.ok, hX.nu, fun o e => (by cases e)⟩ rfl⟩
theorem switch_g (ps pd : Nat) (D : Dsk) (G : StG) (m : Nat) (hF : Bnd D G m) (hm : m ≤ 1000000000) (s l : Int) (hh : G.home) :
    Cn Tryz.prog 53 [.pointer (some ⟨ps, 0, none⟩), .int .i64 s, .int .i64 l] [stoA ps pd D G none] (fun v Γ => (∃ (c : Int) (D2 : Dsk), c ≠ 0 ∧ Bnd D2 G (m + 1) ∧ Mv D G D2 G ∧ (Clean D → (swS G.x s l).Ok (D.n : Int) → False) ∧ v = .int .i64 c ∧ Γ = [stoA ps pd D2 G none]) ∨ (∃ D2 : Dsk, Bnd D2 (swG G s l) (m + 1) ∧ Mv D G D2 (swG G s l) ∧ (Clean D → Clean D2) ∧ v = .int .i64 0 ∧ Γ = [stoA ps pd D2 (swG G s l) none])) := by
  intro z R w H
  obtain ⟨X, hX, H⟩ := H.sto
  have h1 := hF.gen
  have h2 := hF.epoch
  have h3 := hF.q
  refine Ret.mono (Cn.at (switch_c ps pd X.pt X.pl X.md G.x X.sL _ X.nu X.hq D G.B G.rs G.ptl G.a G.q G.u G.b G.sure hX.inv hX.l (by omega) (fun i => by have := hF.ver i; omega) s l (by omega)) H 6 [0, 1, 2, 3, 4, 5] rfl rfl) ?_
  rintro v w' ⟨Γ', (⟨hn, rfl, rfl⟩ | ⟨hn, hy, rfl, rfl⟩ | ⟨hn, hy, hb, rfl, rfl⟩ | ⟨hn, hy, _, pl2, hS2, rfl, rfl⟩), H'⟩
  · exact absurd hh hn
  · exact ⟨_, .inl ⟨1, D, by decide, hF.le (by omega), Mv.refl D G, fun _ h => hy h, rfl, rfl⟩, H'.toSto (X := X) 6 hX rfl⟩
  · exact ⟨_, .inl ⟨11, D.wf, by decide, ⟨fun i => by have := hF.ver i; show (D.ver i).length ≤ _; omega, by omega, by omega, by omega⟩, ⟨rfl, rfl, rfl, fun e => e⟩, fun a _ => a.bad hb, rfl, rfl⟩, H'.toSto (X := X) 6 ⟨hX.inv.f rfl rfl rfl, hX.l, hX.ok, hX.nu, hX.own⟩ rfl⟩
  · have hr := ov_none hn (fun j r h => (hX.inv.p.recs j r h).2.1.1)
    have H4 := H'.mono 4 (B := pgsA X.md noPgs X.hq) rfl (fun h q => by rw [hr] at q; exact q)
    refine ⟨_, .inr ⟨svD D (swS G.x s l), ⟨fun i => ?_, by show G.x.gen + 1 ≤ _; omega, by show G.x.epoch + 1 ≤ _; omega, by show (1 : Int) ≤ _; omega⟩, ⟨rfl, ?_, rfl, fun _ => rfl⟩, fun a => a.sv _, rfl, rfl⟩, H4.toSto (X := ⟨pl2, X.pt, X.md, X.mm, swS G.x s l, decide ((swS G.x s l).epoch < 4294967296), X.hq⟩) 6 ⟨hS2, ⟨rfl, rfl, rfl⟩, hy, rfl, fun o e => (by cases e)⟩ rfl⟩
    · by_cases e : i = ((swS G.x s l).gen % 2).toNat
      · rw [e, (sv_here D _).2]; simp
      · rw [(sv_out D _ i e).2]; have := hF.ver i; omega
    · rw [home_M hh]; exact home_M (G := swG G s l) (fun _ => rfl)
theorem crash_g (ps pd : Nat) (D : Dsk) (G : StG) (own : Txn) (m : Nat) (hF : Bnd D G m) (hm : m ≤ 1000000000) (v : Value) (pk : List Int) (A : Asn) (hA : ∀ h, A h → rdH 1 v pk.length (pk.map (Value.int .i64)) h) :
    Cn Tryz.prog 25 [.pointer (some ⟨pd, 0, none⟩), v] [stoA ps pd D G own, A] (fun v Γ => ∃ D2 : Dsk, Clean D2 ∧ D2.n = D.n ∧ OInv D2 G.x G.B (fun got => G.sure ≤ got.length ∧ got.length ≤ G.rs.length ∧ got = G.rs.take got.length) ∧ v = .tuple #[] ∧ Γ = [diskA pd D2, A]) := by
  intro z R w H
  obtain ⟨X, hX, H⟩ := H.sto
  have h3 := hF.q
  have H2 : Sep z (diskA pd D :: A :: R) w := by
    cases own with
    | none => exact H.pick 7 [3, 6] rfl
    | some o => exact H.pick 8 [3, 7] rfl
  refine Ret.mono (Cn.at (crash_c pd D v pk A hA (fun i => by have := hF.ver i; omega)) H2 2 [0, 1] rfl rfl) ?_
  rintro v w' ⟨Γ', ⟨D2, hc, hf, rfl, rfl⟩, H'⟩
  exact ⟨_, ⟨D2, ⟨hf.1, hf.2.1, hf.2.2.1, hf.2.2.2.1⟩, hc.n, hX.inv.crashed (by omega) hc, rfl, rfl⟩, H'⟩
end Go.Proofs.YtbegkbjigbkljaaGreatDoor
namespace Go.Proofs.YtbegkbjigbkljaaGreatDoor
open Go.RowKit
theorem rnew_c (ps : Nat) : Cn Tryz.prog 11 [.pointer (some ⟨ps, 0, none⟩), .int .i64 400] [] (fun v Γ => ∃ pm, v = .pointer (some ⟨pm, 0, none⟩) ∧ Γ = [blk pm [.pointer (some ⟨ps, 0, none⟩), .int .i64 400, .pointer none] 103]) := by
 intro z R w H'; have H : Sep z (R) w := H'
 clear H'; refine enter Tryz.func11 rfl 11 Tryz.ntmps11 rfl (k_seq (s_region (s_M 1 rfl rfl (s_end (k_seq (k_seq (s_region (s_M 1 rfl rfl (s_do rfl rfl rfl (d_eql_pn rfl (by kernel_rfl) rfl rfl) (s_end (k_false rfl (k_skip (k_seq ?_))))))))))))); refine s_region (s_M 2 rfl rfl (s_do rfl rfl rfl (d_build rfl rfl (out := [.pointer (some ⟨ps, 0, none⟩), .int .i64 400, .pointer none]) (by kernel_rfl)) (s_go rfl rfl rfl (n_box H rfl rfl (cs := [.pointer (some ⟨ps, 0, none⟩), .int .i64 400, .pointer none]) rfl) ?_))); rintro _ w ⟨b1, rfl, H'⟩; have H := H'.l1; clear H'; refine s_M 1 rfl rfl (s_end (k_ret (doneL rfl [.pointer (some ⟨b1, 0, none⟩)] ⟨rfl, trivial⟩ (v := .pointer (some ⟨b1, 0, none⟩)) rfl ?_))); exact ⟨[blk b1 [.pointer (some ⟨ps, 0, none⟩), .int .i64 400, .pointer none] 103], ⟨_, rfl, rfl⟩, H⟩
theorem rnew0_c  : Cn Tryz.prog 11 [.pointer none, .int .i64 400] [] (fun v Γ => v = .pointer none ∧ Γ = []) := by
 intro z R w H'; have H : Sep z (R) w := H'
 clear H'; refine enter Tryz.func11 rfl 11 Tryz.ntmps11 rfl (k_seq (s_region (s_M 1 rfl rfl (s_end (k_seq (k_seq (s_region (s_M 1 rfl rfl (s_do rfl rfl rfl (d_eql_nn rfl (by kernel_rfl) rfl rfl) (s_end (k_true rfl (k_seq (s_region ?_))))))))))))); refine s_M 1 rfl rfl (s_end (k_ret (doneL rfl [.pointer none] ⟨rfl, trivial⟩ (v := .pointer none) rfl ?_))); exact ⟨[], ⟨rfl, rfl⟩, H⟩
theorem busy0_c (pm ps : Nat) : Cn Tryz.prog 14 [.pointer (some ⟨pm, 0, none⟩)] [blk pm [.pointer (some ⟨ps, 0, none⟩), .int .i64 400, .pointer none] 103] (fun v Γ => v = .bool false ∧ Γ = [blk pm [.pointer (some ⟨ps, 0, none⟩), .int .i64 400, .pointer none] 103]) := by
 intro z R w H'; have H : Sep z (blk pm [.pointer (some ⟨ps, 0, none⟩), .int .i64 400, .pointer none] 103 :: R) w := H'
 clear H'; refine enter Tryz.func14 rfl 8 Tryz.ntmps14 rfl (k_seq (s_region (s_M 1 rfl rfl (s_end (k_seq (s_region (s_L 4 [2, 0] (mm1 (H.blk 0 rfl) mm0) rfl (by kernel_rfl) rfl (s_do rfl rfl rfl (d_neq_nn rfl (by kernel_rfl) rfl rfl) (s_M 1 rfl rfl (s_end (k_ret (doneL rfl [.bool false] ⟨rfl, trivial⟩ (v := .bool false) rfl ?_)))))))))))); exact ⟨[blk pm [.pointer (some ⟨ps, 0, none⟩), .int .i64 400, .pointer none] 103], ⟨rfl, rfl⟩, H⟩
theorem busy1_c (pm ps pl : Nat) : Cn Tryz.prog 14 [.pointer (some ⟨pm, 0, none⟩)] [blk pm [.pointer (some ⟨ps, 0, none⟩), .int .i64 400, .pointer (some ⟨pl, 0, none⟩)] 103] (fun v Γ => v = .bool true ∧ Γ = [blk pm [.pointer (some ⟨ps, 0, none⟩), .int .i64 400, .pointer (some ⟨pl, 0, none⟩)] 103]) := by
 intro z R w H'; have H : Sep z (blk pm [.pointer (some ⟨ps, 0, none⟩), .int .i64 400, .pointer (some ⟨pl, 0, none⟩)] 103 :: R) w := H'
 clear H'; refine enter Tryz.func14 rfl 8 Tryz.ntmps14 rfl (k_seq (s_region (s_M 1 rfl rfl (s_end (k_seq (s_region (s_L 4 [2, 0] (mm1 (H.blk 0 rfl) mm0) rfl (by kernel_rfl) rfl (s_do rfl rfl rfl (d_neq_pn rfl (by kernel_rfl) rfl rfl) (s_M 1 rfl rfl (s_end (k_ret (doneL rfl [.bool true] ⟨rfl, trivial⟩ (v := .bool true) rfl ?_)))))))))))); exact ⟨[blk pm [.pointer (some ⟨ps, 0, none⟩), .int .i64 400, .pointer (some ⟨pl, 0, none⟩)] 103], ⟨rfl, rfl⟩, H⟩
theorem ask1_c (pm ps pl : Nat) (s l : Int) : Cn Tryz.prog 15 [.pointer (some ⟨pm, 0, none⟩), .int .i64 s, .int .i64 l] [blk pm [.pointer (some ⟨ps, 0, none⟩), .int .i64 400, .pointer (some ⟨pl, 0, none⟩)] 103] (fun v Γ => v = .int .i64 17 ∧ Γ = [blk pm [.pointer (some ⟨ps, 0, none⟩), .int .i64 400, .pointer (some ⟨pl, 0, none⟩)] 103]) := by
 intro z R w H'; have H : Sep z (blk pm [.pointer (some ⟨ps, 0, none⟩), .int .i64 400, .pointer (some ⟨pl, 0, none⟩)] 103 :: R) w := H'
 clear H'; refine enter Tryz.func15 rfl 43 Tryz.ntmps15 rfl (k_seq (s_region (s_M 1 rfl rfl (s_end (k_seq (k_seq (s_region (s_L 4 [2, 0] (mm1 (H.blk 0 rfl) mm0) rfl (by kernel_rfl) rfl (s_do rfl rfl rfl (d_neq_pn rfl (by kernel_rfl) rfl rfl) (s_end (k_true rfl (k_seq (s_region ?_))))))))))))); refine s_M 1 rfl rfl (s_end (k_ret (doneL rfl [.int .i64 17] ⟨rfl, trivial⟩ (v := .int .i64 17) rfl ?_))); exact ⟨[blk pm [.pointer (some ⟨ps, 0, none⟩), .int .i64 400, .pointer (some ⟨pl, 0, none⟩)] 103], ⟨rfl, rfl⟩, H⟩
set_option maxHeartbeats 2000000 in
theorem ask0_c (pm ps pd : Nat) (D : Dsk) (G : StG) (hb : G.x.gen ≤ 2000000000 ∧ G.x.epoch ≤ 2000000000) (s l : Int) : Cn Tryz.prog 15 [.pointer (some ⟨pm, 0, none⟩), .int .i64 s, .int .i64 l] [blk pm [.pointer (some ⟨ps, 0, none⟩), .int .i64 400, .pointer none] 103, stoA ps pd D G none] (fun v Γ => (¬ (swS G.x s l).Ok 400 ∧ v = .int .i64 1 ∧ Γ = [blk pm [.pointer (some ⟨ps, 0, none⟩), .int .i64 400, .pointer none] 103, stoA ps pd D G none]) ∨ ((swS G.x s l).Ok 400 ∧ ∃ pl, v = .int .i64 0 ∧ Γ = [blk pm [.pointer (some ⟨ps, 0, none⟩), .int .i64 400, .pointer (some ⟨pl, 0, none⟩)] 103, blk pl [.int .i64 s, .int .i64 l] 110, stoA ps pd D G none])) := by
 intro z R w H'; have H : Sep z (blk pm [.pointer (some ⟨ps, 0, none⟩), .int .i64 400, .pointer none] 103 :: stoA ps pd D G none :: R) w := H'
 clear H'; have hxg := Sup.get (H.says 1 rfl (fun h q => (stoA.inv q).ok))
 refine enter Tryz.func15 rfl 43 Tryz.ntmps15 rfl (k_seq (s_region (s_M 1 rfl rfl (s_end (k_seq (k_seq (s_region (s_L 4 [2, 0] (mm1 (H.blk 0 rfl) mm0) rfl (by kernel_rfl) rfl (s_do rfl rfl rfl (d_neq_nn rfl (by kernel_rfl) rfl rfl) (s_end (k_false rfl (k_skip (k_seq ?_))))))))))))); refine s_region (s_L 4 [0, 0] (mm1 (H.blk 0 rfl) mm0) rfl (by kernel_rfl) rfl (s_C rfl rfl rfl rfl rfl (fun w => Tryz.call13 _ w) (super_s ps pd D G none) H.f1 rfl ?_)); rintro _ w _ ⟨rfl, rfl⟩ H'; have H := H'.l2; clear H'; refine s_go rfl rfl rfl (n_alloc (P := Tryz.prog) H rfl (zs := [.int .i64 0, .int .i64 0, .int .i64 0, .int .i64 0, .int .i64 0, .int .i64 0, .int .i64 0]) (by kernel_rfl)) ?_; rintro _ w ⟨b1, rfl, H'⟩; have H := H'.l3; clear H'; refine s_put rfl rfl (n_store 0 H rfl rfl rfl rfl (vs := [.int .i64 G.x.gen, .int .i64 G.x.epoch, .int .i64 G.x.pages, .int .i64 G.x.start, .int .i64 G.x.len, .int .i64 G.x.head, .int .i64 G.x.seq]) rfl (by simp [u8, u32, Value.oneCell']) (by kernel_rfl) (by simp) (out := [.int .i64 G.x.gen, .int .i64 G.x.epoch, .int .i64 G.x.pages, .int .i64 G.x.start, .int .i64 G.x.len, .int .i64 G.x.head, .int .i64 G.x.seq]) rfl) ?_; rintro w H'; have H := H'.l3; clear H'; refine s_end (k_seq (s_region (s_L 2 [0, 0] (mm1 (H.blk 0 rfl) mm0) rfl (by kernel_rfl) rfl (s_do rfl rfl rfl (d_add64 rfl rfl rfl (r := G.x.gen + 1) (by omega) (by omega)) (s_L 2 [1, 0] (mm1 (H.blk 0 rfl) mm0) rfl (by kernel_rfl) rfl (s_do rfl rfl rfl (d_add64 rfl rfl rfl (r := G.x.epoch + 1) (by omega) (by omega)) (s_L 4 [2, 0] (mm1 (H.blk 0 rfl) mm0) rfl (by kernel_rfl) rfl (s_do rfl rfl rfl (d_build rfl rfl (out := [.int .i64 (G.x.gen + 1), .int .i64 (G.x.epoch + 1), .int .i64 G.x.pages, .int .i64 s, .int .i64 l, .int .i64 0, .int .i64 1]) (by kernel_rfl)) (s_put rfl rfl (n_store 0 H rfl rfl rfl rfl (vs := [.int .i64 (G.x.gen + 1), .int .i64 (G.x.epoch + 1), .int .i64 G.x.pages, .int .i64 s, .int .i64 l, .int .i64 0, .int .i64 1]) rfl (by simp [u8, u32, Value.oneCell']) (by kernel_rfl) (by simp) (out := [.int .i64 (G.x.gen + 1), .int .i64 (G.x.epoch + 1), .int .i64 G.x.pages, .int .i64 s, .int .i64 l, .int .i64 0, .int .i64 1]) rfl) ?_)))))))))
 rintro w H'; have H := H'.l3; clear H'; refine s_end (k_seq (k_seq (q_region (Sep z _) (by kernel_rfl) (by kernel_rfl) H.drew (q_do rfl rfl rfl (d_loadAgg rfl rfl (vs := [.int .i64 (G.x.gen + 1), .int .i64 (G.x.epoch + 1), .int .i64 G.x.pages, .int .i64 s, .int .i64 l, .int .i64 0, .int .i64 1]) (by kernel_rfl) (fun _ hx => (hx.blk 0 rfl).part 0 7 _ rfl)) (q_do rfl rfl rfl (d_move rfl rfl) (q_do rfl rfl rfl (d_nilCheck rfl rfl) (q_do rfl rfl rfl (d_field rfl (k := 1) (r := 1) (by kernel_rfl) rfl rfl) (q_do rfl rfl rfl (d_load rfl rfl (by kernel_rfl) (fun _ hx => hx.cel 2 rfl 1 rfl)) (q_call rfl rfl rfl rfl rfl (fun w => Tryz.call50 _ w) (v := .int .i64 (if (Sup.mk (G.x.gen + 1) (G.x.epoch + 1) G.x.pages s l 0 1).Ok 400 then 0 else 1)) (cq (check_c (Sup.mk (G.x.gen + 1) (G.x.epoch + 1) G.x.pages s l 0 1) _ (by omega)) (by rintro _ _ ⟨rfl, rfl⟩; exact ⟨rfl, rfl⟩) 0 [] [] rfl rfl rfl rfl) (q_do rfl rfl rfl (d_neq rfl rfl rfl) (q_end (fun w H' => ?_)))))))))))); have H := H'.l3; clear H'; refine k_dec rfl (fun h1 => ?_) (fun h1 => ?_)
 ·refine k_seq (s_region (s_M 1 rfl rfl (s_end (k_ret (doneL rfl [.int .i64 1] ⟨rfl, trivial⟩ (v := .int .i64 1) rfl ?_))))); exact ⟨[blk pm [.pointer (some ⟨ps, 0, none⟩), .int .i64 400, .pointer none] 103, stoA ps pd D G none], .inl ⟨fun hk => absurd (if_pos hk) h1, rfl, rfl⟩, H.perm 3 [2, 1] rfl rfl⟩
 ·refine k_skip (k_seq (s_region (s_M 3 rfl rfl (s_do rfl rfl rfl (d_build rfl rfl (out := [.int .i64 s, .int .i64 l]) (by kernel_rfl)) (s_go rfl rfl rfl (n_box H rfl rfl (cs := [.int .i64 s, .int .i64 l]) rfl) ?_))))); rintro _ w ⟨b2, rfl, H'⟩; have H := H'.l4; clear H'; refine s_Q 2 [2] rfl (by kernel_rfl) (s_put rfl rfl (n_store 3 H rfl rfl rfl rfl (vs := [.pointer (some ⟨b2, 0, none⟩)]) rfl (by simp [u8, u32, Value.oneCell']) (by kernel_rfl) (by simp) (out := [.pointer (some ⟨ps, 0, none⟩), .int .i64 400, .pointer (some ⟨b2, 0, none⟩)]) rfl) ?_); rintro w H'; have H := H'.l4; clear H'; refine s_end (k_seq (s_region (s_M 1 rfl rfl (s_end (k_ret (doneL rfl [.int .i64 0] ⟨rfl, trivial⟩ (v := .int .i64 0) rfl ?_)))))); exact ⟨[blk pm [.pointer (some ⟨ps, 0, none⟩), .int .i64 400, .pointer (some ⟨b2, 0, none⟩)] 103, blk b2 [.int .i64 s, .int .i64 l] 110, stoA ps pd D G none], .inr ⟨Decidable.byContradiction fun g_ => h1 (fun e => absurd ((if_neg g_).symm.trans e) (by decide)), _, rfl, rfl⟩, H.perm 4 [3, 0, 2] rfl rfl⟩
end Go.Proofs.YtbegkbjigbkljaaGreatDoor
namespace Go.Proofs.YtbegkbjigbkljaaGreatDoor
open Go.RowKit
variable {z w : World} in
theorem dirty_w (ps pd : Nat) (D : Dsk) (G : StG) (txn : Txn) : Cn Tryz.prog 51 [.pointer (some ⟨ps, 0, none⟩)] [stoA ps pd D G txn] (fun v Γ => (G.home ∧ ∃ ao c, v = .slice ao 0 c ∧ Γ = [stoA ps pd D G txn]) ∨ (¬ G.home ∧ ∃ (ks : List Int) (g cap : Nat) (rest : List Value), 0 < ks.length ∧ ks.length ≤ cap ∧ cap ≤ 9223372036854775807 ∧ v = .slice (some ⟨g, 0, none⟩) ks.length cap ∧ Γ = [blk g (ks.map (Value.int .i64) ++ rest) 3, stoA ps pd D G txn])) := by
  intro z R w H
  refine Ret.mono (dirty_s ps pd D G txn z R w H) ?_
  rintro v w' ⟨Γ', ⟨ks, hks, rfl⟩, H'⟩
  rcases Nat.eq_zero_or_pos ks.length with e | e
  · obtain ⟨ao, c, hv⟩ := H'.says 0 rfl (fun h q => q.slc)
    rw [e] at hv
    have e2 : ks = [] := List.length_eq_zero_iff.1 e
    subst e2
    refine ⟨_, .inl ⟨fun n => ?_, ao, c, hv, rfl⟩, H'.pick 2 [1] rfl⟩
    cases ho : ov G.rs n with
    | none => rfl
    | some p =>
      have := (hks.2 (n : Int)).2 ⟨by omega, by rw [Int.toNat_natCast, ho]; rfl⟩
      cases this
  · obtain ⟨g, cap, rest, hv, h1, h0, _, H2⟩ := H'.ungrow 0 rfl e
    refine ⟨_, .inr ⟨fun hh => ?_, ks, g, cap, rest, e, h1, h0, hv, rfl⟩, H2⟩
    obtain ⟨k, hk⟩ : ∃ k, k ∈ ks := ⟨ks[0], List.getElem_mem e⟩
    have h2 := ((hks.2 k).1 hk).2
    rw [hh] at h2
    cases h2
theorem step0_c (pm ps : Nat) : Cn Tryz.prog 16 [.pointer (some ⟨pm, 0, none⟩)] [blk pm [.pointer (some ⟨ps, 0, none⟩), .int .i64 400, .pointer none] 103] (fun v Γ => v = .tuple #[.bool false, .int .i64 18] ∧ Γ = [blk pm [.pointer (some ⟨ps, 0, none⟩), .int .i64 400, .pointer none] 103]) := by
 intro z R w H'; have H : Sep z (blk pm [.pointer (some ⟨ps, 0, none⟩), .int .i64 400, .pointer none] 103 :: R) w := H'
 clear H'; refine enter Tryz.func16 rfl 49 Tryz.ntmps16 rfl (k_seq (s_region (s_M 2 rfl rfl (s_end (k_seq (k_seq (s_region (s_L 4 [2, 0] (mm1 (H.blk 0 rfl) mm0) rfl (by kernel_rfl) rfl (s_do rfl rfl rfl (d_eql_nn rfl (by kernel_rfl) rfl rfl) (s_end (k_true rfl (k_seq (s_region ?_))))))))))))); refine s_M 2 rfl rfl (s_end (k_ret (doneL rfl [.bool false, .int .i64 18] ⟨rfl, ⟨rfl, trivial⟩⟩ (v := .tuple #[.bool false, .int .i64 18]) rfl ?_))); exact ⟨[blk pm [.pointer (some ⟨ps, 0, none⟩), .int .i64 400, .pointer none] 103], ⟨rfl, rfl⟩, H⟩
set_option maxHeartbeats 2000000 in
theorem step1_c (pm ps pd pl : Nat) (s l : Int) (D : Dsk) (G : StG) (m : Nat) (hF : Bnd D G m) (hm : m ≤ 1000000000) : Cn Tryz.prog 16 [.pointer (some ⟨pm, 0, none⟩)] [blk pm [.pointer (some ⟨ps, 0, none⟩), .int .i64 400, .pointer (some ⟨pl, 0, none⟩)] 103, blk pl [.int .i64 s, .int .i64 l] 110, stoA ps pd D G none] (fun v Γ => (¬ G.home ∧ ∃ (c : Int) (D2 : Dsk) (G2 : StG), Bnd D2 G2 (m + 1) ∧ Mv D G D2 G2 ∧ (G2.x.start = G.x.start ∧ G2.x.len = G.x.len) ∧ (Clean D ∧ G.b = false → c = 0 ∧ (Clean D2 ∧ G2.b = false) ∧ G2.home) ∧ v = .tuple #[.bool false, .int .i64 c] ∧ Γ = [blk pm [.pointer (some ⟨ps, 0, none⟩), .int .i64 400, .pointer (some ⟨pl, 0, none⟩)] 103, blk pl [.int .i64 s, .int .i64 l] 110, stoA ps pd D2 G2 none]) ∨ (G.home ∧ ∃ (c : Int) (D2 : Dsk), c ≠ 0 ∧ Bnd D2 G (m + 1) ∧ Mv D G D2 G ∧ (Clean D → (swS G.x s l).Ok (D.n : Int) → False) ∧ v = .tuple #[.bool false, .int .i64 c] ∧ Γ = [blk pm [.pointer (some ⟨ps, 0, none⟩), .int .i64 400, .pointer (some ⟨pl, 0, none⟩)] 103, blk pl [.int .i64 s, .int .i64 l] 110, stoA ps pd D2 G none]) ∨ (G.home ∧ ∃ D2 : Dsk, Bnd D2 (swG G s l) (m + 1) ∧ Mv D G D2 (swG G s l) ∧ (Clean D → Clean D2) ∧ v = .tuple #[.bool true, .int .i64 0] ∧ Γ = [blk pm [.pointer (some ⟨ps, 0, none⟩), .int .i64 400, .pointer none] 103, blk pl [.int .i64 s, .int .i64 l] 110, stoA ps pd D2 (swG G s l) none])) := by
 intro z R w H'; have H : Sep z (blk pm [.pointer (some ⟨ps, 0, none⟩), .int .i64 400, .pointer (some ⟨pl, 0, none⟩)] 103 :: blk pl [.int .i64 s, .int .i64 l] 110 :: stoA ps pd D G none :: R) w := H'
 clear H'; refine enter Tryz.func16 rfl 49 Tryz.ntmps16 rfl (k_seq (s_region (s_M 2 rfl rfl (s_end (k_seq (k_seq (s_region (s_L 4 [2, 0] (mm1 (H.blk 0 rfl) mm0) rfl (by kernel_rfl) rfl (s_do rfl rfl rfl (d_eql_pn rfl (by kernel_rfl) rfl rfl) (s_end (k_false rfl (k_skip (k_seq ?_))))))))))))); refine k_seq (s_region (s_L 4 [0, 0] (mm1 (H.blk 0 rfl) mm0) rfl (by kernel_rfl) rfl (s_C rfl rfl rfl rfl rfl (fun w => Tryz.call51 _ w) (dirty_w _ _ _ _ _) H.f2 rfl ?_))); rintro _ w _ (⟨hh6, ao6, c6, rfl, rfl⟩ | ⟨hh6, ks, g6, cap6, rest6, hk6, hkc6, hkx6, rfl, rfl⟩) H'
 ·have H := H'.l3; clear H'; refine s_do rfl rfl rfl (d_len rfl (z := 1) (by kernel_rfl) rfl) (s_M 1 rfl rfl (k_updA 16 (u := .bool (decide ((0 : Int) < 0))) (v := .bool false) rfl (congrArg Value.bool (by decide)) (s_end (k_false rfl (k_skip (k_seq (t_region 18 (by kernel_rfl) (by kernel_rfl) (fun w' x' _ => ?_)))))))); have H' := H.ext0 x'; clear x' H; revert H'; generalize w' = w; intro H'
  have H := H'.l3; clear H'; refine t_do rfl rfl rfl (d_move rfl rfl) (t_do rfl rfl rfl (d_nilCheck rfl rfl) (t_do rfl rfl rfl (d_field rfl (k := 0) (r := 0) (by kernel_rfl) rfl rfl) (t_do rfl rfl rfl (d_load rfl rfl (by kernel_rfl) (here (H.cel 1 rfl 0 rfl))) (t_do rfl rfl rfl (d_move rfl rfl) (t_do rfl rfl rfl (d_nilCheck rfl rfl) (t_do rfl rfl rfl (d_field rfl (k := 2) (r := 2) (by kernel_rfl) rfl rfl) (t_do rfl rfl rfl (d_load rfl rfl (by kernel_rfl) (here (H.cel 1 rfl 2 rfl))) (t_do rfl rfl rfl (d_nilCheck rfl rfl) (t_do rfl rfl rfl (d_field rfl (k := 0) (r := 0) (by kernel_rfl) rfl rfl) (t_do rfl rfl rfl (d_load rfl rfl (by kernel_rfl) (here (H.cel 2 rfl 0 rfl))) (t_do rfl rfl rfl (d_move rfl rfl) (t_do rfl rfl rfl (d_nilCheck rfl rfl) (t_do rfl rfl rfl (d_field rfl (k := 2) (r := 2) (by kernel_rfl) rfl rfl) ?_))))))))))))); refine t_do rfl rfl rfl (d_load rfl rfl (by kernel_rfl) (here (H.cel 1 rfl 2 rfl))) (t_do rfl rfl rfl (d_nilCheck rfl rfl) (t_do rfl rfl rfl (d_field rfl (k := 1) (r := 1) (by kernel_rfl) rfl rfl) (t_do rfl rfl rfl (d_load rfl rfl (by kernel_rfl) (here (H.cel 2 rfl 1 rfl))) (t_end (s_C rfl rfl rfl rfl rfl (fun w => Tryz.call53 _ w) (switch_g _ _ _ _ m hF (by omega) s l hh6) H rfl ?_))))); rintro _ w _ (⟨c_, D2, hc0, hB2, hMv, hfin, rfl, rfl⟩ | ⟨D2, hB2, hMv, hfin, rfl, rfl⟩) H'
  ·have H := H'.l3; clear H'; refine s_M 1 rfl rfl (s_end (k_seq (k_seq (s_region (s_M 2 rfl rfl (s_end (k_dec rfl (fun h1 => ?_) (fun h1 => ?_))))))))
   ·exact absurd h1 hc0
   ·refine k_skip (k_seq (s_region (s_M 2 rfl rfl (k_updA 47 (u := .bool (decide ((c_ : Int) = 0))) (v := .bool false) rfl (congrArg Value.bool (decide_eq_false hc0)) (s_M 3 rfl rfl (s_end (k_ret (doneL rfl [.bool false, .int .i64 c_] ⟨rfl, ⟨rfl, trivial⟩⟩ (v := .tuple #[.bool false, .int .i64 c_]) rfl ?_)))))))); exact ⟨[blk pm [.pointer (some ⟨ps, 0, none⟩), .int .i64 400, .pointer (some ⟨pl, 0, none⟩)] 103, blk pl [.int .i64 s, .int .i64 l] 110, stoA ps pd D2 G none], .inr (.inl ⟨hh6, _, _, hc0, hB2, hMv, hfin, rfl, rfl⟩), H.perm 3 [1, 2, 0] rfl rfl⟩
  ·have H := H'.l3; clear H'; refine s_M 1 rfl rfl (s_end (k_seq (k_seq (s_region (s_M 2 rfl rfl (k_updA 42 (u := .bool (decide ((0 : Int) = 0))) (v := .bool true) rfl (congrArg Value.bool (by decide)) (s_end (k_true rfl (s_region (s_Q 3 [2] rfl (by kernel_rfl) (s_put rfl rfl (n_store 1 H rfl rfl rfl rfl (vs := [.pointer none]) rfl (by simp [u8, u32, Value.oneCell']) (by kernel_rfl) (by simp) (out := [.pointer (some ⟨ps, 0, none⟩), .int .i64 400, .pointer none]) rfl) ?_))))))))))); rintro w H'; have H := H'.l3; clear H'; refine s_end (k_seq (s_region (s_M 2 rfl rfl (k_updA 47 (u := .bool (decide ((0 : Int) = 0))) (v := .bool true) rfl (congrArg Value.bool (by decide)) (s_M 3 rfl rfl (s_end (k_ret (doneL rfl [.bool true, .int .i64 0] ⟨rfl, ⟨rfl, trivial⟩⟩ (v := .tuple #[.bool true, .int .i64 0]) rfl ?_)))))))); exact ⟨[blk pm [.pointer (some ⟨ps, 0, none⟩), .int .i64 400, .pointer none] 103, blk pl [.int .i64 s, .int .i64 l] 110, stoA ps pd D2 (swG G s l) none], .inr (.inr ⟨hh6, _, hB2, hMv, hfin, rfl, rfl⟩), H.perm 3 [1, 2, 0] rfl rfl⟩
 ·have H := H'.l4; clear H'; refine s_do rfl rfl rfl (d_len rfl (z := 1) (by kernel_rfl) rfl) (s_M 1 rfl rfl (s_end (k_dec rfl (fun h2 => ?_) (fun h2 => ?_))))
  ·refine k_seq (s_region (s_L 4 [0, 0] (mm1 (H.blk 2 rfl) mm0) rfl (by kernel_rfl) rfl (s_C rfl rfl rfl rfl rfl (fun w => Tryz.call52 _ w) (check_g _ _ _ _ m hF (by omega)) H.f1 rfl ?_))); rintro _ w _ ⟨c_, D2, G2, hB2, hMv, hsl, hfin, rfl, rfl⟩ H'; have H := H'.l4; clear H'; refine s_M 2 rfl rfl (s_end (k_ret (doneL rfl [.bool false, .int .i64 c_] ⟨rfl, ⟨rfl, trivial⟩⟩ (v := .tuple #[.bool false, .int .i64 c_]) rfl ?_))); exact ⟨[blk pm [.pointer (some ⟨ps, 0, none⟩), .int .i64 400, .pointer (some ⟨pl, 0, none⟩)] 103, blk pl [.int .i64 s, .int .i64 l] 110, stoA ps pd D2 G2 none], .inl ⟨hh6, _, _, _, hB2, hMv, hsl, hfin, rfl, rfl⟩, H.perm 4 [2, 3, 0] rfl rfl⟩
  ·(exfalso; omega)
end Go.Proofs.YtbegkbjigbkljaaGreatDoor
namespace Go.Proofs.YtbegkbjigbkljaaGreatDoor
open Go.RowKit
def Ins (s : Sup) (D D' : Dsk) : Prop := D'.n = D.n ∧ (∀ i : Nat, ¬ (s.start ≤ (i : Int) ∧ (i : Int) < s.start + s.len) → D'.ver i = D.ver i) ∧ ∀ i, (D'.ver i).length ≤ (D.ver i).length + 2
theorem wr_out (D : Dsk) (x : Nat) (ps : List (List UInt8)) (j : Nat) (h : j < x ∨ x + ps.length ≤ j) : (D.wr x ps).ver j = D.ver j := Dsk.ws_ver false ps { D with f2 := tick D.f2 } x j h
theorem Ins.refl (s : Sup) (D : Dsk) : Ins s D D := ⟨rfl, fun _ _ => rfl, fun _ => by omega⟩
theorem Ins.one {s : Sup} {D : Dsk} {x : Nat} {ps : List (List UInt8)} (h1 : s.start ≤ x) (h2 : (x : Int) + ps.length ≤ s.start + s.len) : Ins s D (D.wr x ps) :=
  ⟨Dsk.wr_n _ _ _, fun i hi => wr_out _ _ _ _ (by omega), fun i => by have := Dsk.wr_len D x ps i; omega⟩
theorem Ins.two {s : Sup} {D : Dsk} {x y : Nat} {ps qs : List (List UInt8)} (h1 : s.start ≤ x) (h2 : (x : Int) + ps.length ≤ s.start + s.len) (h3 : s.start ≤ y) (h4 : (y : Int) + qs.length ≤ s.start + s.len) : Ins s D ((D.wr x ps).wr y qs) :=
  ⟨by rw [Dsk.wr_n, Dsk.wr_n], fun i hi => by rw [wr_out _ _ _ _ (by omega), wr_out _ _ _ _ (by omega)], fun i => by have := Dsk.wr_len D x ps i; have := Dsk.wr_len (D.wr x ps) y qs i; omega⟩
theorem cut_c (pd : Nat) (D : Dsk) (x : Int) : Cn Tryz.prog 24 [.pointer (some ⟨pd, 0, none⟩), .int .i64 x] [diskA pd D] (fun v Γ => (¬ (0 ≤ x ∧ x ≤ 1099511627776) ∧ v = .int .i64 1 ∧ Γ = [diskA pd D]) ∨ ((0 ≤ x ∧ x ≤ 1099511627776) ∧ v = .int .i64 0 ∧ Γ = [diskA pd { D with cut := true, left := x }])) := by
 intro z R w H'; have H : Sep z (diskA pd D :: R) w := H'
 clear H'; obtain ⟨bd, m, f0, bs, es, clk, hq, hD, hIn, H'⟩ := H.disk; clear H; have hn1 := hD.n1; have hn2 := hD.n2; have hf1 := hD.f1; have hf2 := hD.f2; have hf3 := hD.f3; have hlf := hD.left; have hbl := hIn.len
 have H := H'.l5; clear H'; refine enter Tryz.func24 rfl 18 Tryz.ntmps24 rfl (k_seq (s_region (s_M 1 rfl rfl (s_end (k_seq (k_seq (s_region (s_M 3 rfl rfl (s_part 7 rfl (fun h1 => ?_) (fun h1 => ?_))))))))))
 ·refine s_M 3 rfl rfl (s_end (k_true rfl (k_seq (s_region (s_M 1 rfl rfl (s_end (k_ret (doneL rfl [.int .i64 1] ⟨rfl, trivial⟩ (v := .int .i64 1) rfl ?_)))))))); have H' := Sep.toDisk (D := D) (pd := pd) (bd := bd) (m := m) (f0 := f0) (bs := bs) (es := es) (clk := clk) (hq := hq) (Γ := R) H hD hIn
  have H := H'.l1; clear H'; exact ⟨[diskA pd D], .inl ⟨by omega, rfl, rfl⟩, H⟩
 ·refine s_M 3 rfl rfl (s_end (k_dec rfl (fun h2 => ?_) (fun h2 => ?_)))
  ·refine k_seq (s_region (s_M 1 rfl rfl (s_end (k_ret (doneL rfl [.int .i64 1] ⟨rfl, trivial⟩ (v := .int .i64 1) rfl ?_))))); have H' := Sep.toDisk (D := D) (pd := pd) (bd := bd) (m := m) (f0 := f0) (bs := bs) (es := es) (clk := clk) (hq := hq) (Γ := R) H hD hIn
   have H := H'.l1; clear H'; exact ⟨[diskA pd D], .inl ⟨by omega, rfl, rfl⟩, H⟩
  ·refine k_skip (k_seq (s_region (s_Q 5 [6] rfl (by kernel_rfl) (s_put rfl rfl (n_store 0 H rfl rfl rfl rfl (vs := [.bool true]) rfl (by simp [u8, u32, Value.oneCell']) (by kernel_rfl) (by simp) (out := [.slice (some ⟨bd, 0, none⟩) (D.n * 256) (D.n * 256), .map (some m), .int .i64 f0, .int .i64 D.f1, .int .i64 D.f2, .int .i64 D.f3, .bool true, .int .i64 D.left]) rfl) ?_)))); rintro w H'; have H := H'.l5; clear H'; refine s_Q 2 [7] rfl (by kernel_rfl) (s_put rfl rfl (n_store 0 H rfl rfl rfl rfl (vs := [.int .i64 x]) rfl (by simp [u8, u32, Value.oneCell']) (by kernel_rfl) (by simp) (out := [.slice (some ⟨bd, 0, none⟩) (D.n * 256) (D.n * 256), .map (some m), .int .i64 f0, .int .i64 D.f1, .int .i64 D.f2, .int .i64 D.f3, .bool true, .int .i64 x]) rfl) ?_); rintro w H'; have H := H'.l5; clear H'; refine s_end (k_seq (s_region (s_M 1 rfl rfl (s_end (k_ret (doneL rfl [.int .i64 0] ⟨rfl, trivial⟩ (v := .int .i64 0) rfl ?_)))))); have H' := Sep.toDisk (D := { D with cut := true, left := x }) (pd := pd) (bd := bd) (m := m) (f0 := f0) (bs := bs) (es := es) (clk := clk) (hq := hq) (Γ := R) H (hD.f hD.f1 hD.f2 hD.f3 (by omega)) (hIn.f _ _ _ _ _)
   have H := H'.l1; clear H'; exact ⟨[diskA pd ({ D with cut := true, left := x })], .inr ⟨by omega, rfl, rfl⟩, H⟩
end Go.Proofs.YtbegkbjigbkljaaGreatDoor
namespace Go.Proofs.YtbegkbjigbkljaaGreatDoor
open Go.RowKit
theorem blk_rd0 {b : Nat} {xs : List Value} {ty : TypeId} {h : Hp} (a : blk b xs ty h) (hx : xs.length = 240) : rdH 1 (.slice (some ⟨b, 0, none⟩) 240 240) 240 xs h := a.rd (by omega) (by omega) (by omega) (by simp; exact List.take_of_length_le (by omega))
def pgF (kd fl : Int) : Pg := ⟨kd, List.replicate 240 (byt fl)⟩
theorem pgF_ok {kd : Int} (fl : Int) (h : 1 ≤ kd ∧ kd ≤ 5) : (pgF kd fl).Ok := ⟨h, by simp [pgF]⟩
theorem pgF_len (kd fl : Int) : (pgF kd fl).body.length = 240 := by simp [pgF]
theorem fill_step (i : Nat) (x y : UInt8) (hi : i < 240) : ((List.replicate i x ++ List.replicate (240 - i) y).map u8).take i ++ [u8 x] ++ ((List.replicate i x ++ List.replicate (240 - i) y).map u8).drop (i + 1) = (List.replicate (i + 1) x ++ List.replicate (240 - (i + 1)) y).map u8 := by
  rw [List.map_append, List.take_append_of_le_length (by simp), List.take_of_length_le (by simp), List.drop_append, List.drop_of_length_le (by simp), List.nil_append]
  simp only [List.map_replicate, List.length_replicate, List.drop_replicate]
  rw [show 240 - i - (i + 1 - i) = 240 - (i + 1) from by omega, List.map_append, List.map_replicate, List.map_replicate, List.replicate_succ', List.append_assoc]
theorem fm_ok {n : Nat} {p s l : Int} (h : 16 ≤ p ∧ p ≤ 1024) (h1 : 2 + p ≤ s) (h2 : 64 ≤ l) (h3 : s + l ≤ n) (h4 : n ≤ 4096) : (fmS p s l 2).Ok (n : Int) :=
  Sup.ok_mk (by show 0 ≤ (2 : Int) ∧ (2 : Int) ≤ 1099511627776; omega) (by show 0 ≤ (1 : Int) ∧ (1 : Int) ≤ 1099511627776; omega) (by show 16 ≤ p ∧ p ≤ 1024; omega) (by show 2 + p ≤ s ∧ s ≤ 1099511627776; omega) (by show 64 ≤ l ∧ l ≤ 1099511627776; omega) (by show 0 ≤ (0 : Int) ∧ (0 : Int) < l; omega) (by show 0 ≤ (1 : Int) ∧ (1 : Int) ≤ 1099511627776; omega) (by show s ≤ n - l ∧ l ≤ n; omega)
def g07 : StG := opG (fmS 16 18 64 2) (fun _ => noPg)
theorem sw_ok {x : Sup} {s l : Int} (n : Int) (hg : (0 ≤ x.gen ∧ x.gen ≤ 2000000000) ∧ 0 ≤ x.epoch ∧ x.epoch ≤ 2000000000) (hp : x.pages = 16) (h : 18 ≤ s ∧ 64 ≤ l ∧ s ≤ n - l ∧ l ≤ n) (hn : n ≤ 4096) : (swS x s l).Ok n := by
  have hf := swS_f x s l
  exact Sup.ok_mk (by omega) (by omega) (by omega) (by omega) (by omega) (by omega) (by omega) (by omega)
theorem stoA.gen0 {ps pd : Nat} {D : Dsk} {G : StG} {own : Txn} {h : Hp} (a : stoA ps pd D G own h) : 0 ≤ G.x.gen ∧ 0 ≤ G.x.epoch := by
  have := Sup.get (stoA.inv a).ok
  omega
abbrev mvB (pm ps pl : Nat) : Asn := blk pm [.pointer (some ⟨ps, 0, none⟩), .int .i64 400, .pointer (some ⟨pl, 0, none⟩)] 103
abbrev plB (pl : Nat) (e : Int × Int) : Asn := blk pl [.int .i64 e.1, .int .i64 e.2] 110
def moA (pm ps : Nat) (t : Option (Int × Int)) : Asn := fun h => match t with
  | none => blk pm [.pointer (some ⟨ps, 0, none⟩), .int .i64 400, .pointer none] 103 h
  | some e => ∃ pl, seps [mvB pm ps pl, plB pl e] h
section
variable {z w : World} {Γ : List Asn} {pm ps pd : Nat} {D : Dsk} {G : StG}
theorem Sep.mo {e : Int × Int} (H : Sep z (moA pm ps (some e) :: Γ) w) : ∃ pl, Sep z (mvB pm ps pl :: plB pl e :: Γ) w := by
  obtain ⟨pl, _, H⟩ := H.into (p := fun _ => True) (As := fun pl => [mvB pm ps pl, plB pl e]) (fun h a => by obtain ⟨pl, a⟩ := a; exact ⟨pl, trivial, a⟩)
  exact ⟨pl, H⟩
theorem Sep.toMo {e : Int × Int} {pl : Nat} (H : Sep z (mvB pm ps pl :: plB pl e :: Γ) w) : Sep z (moA pm ps (some e) :: Γ) w := H.made 2 (fun h a => ⟨pl, a⟩)
end
theorem new_m (ps : Nat) : Cn Tryz.prog 11 [.pointer (some ⟨ps, 0, none⟩), .int .i64 400] [] (fun v Γ => ∃ pm, v = .pointer (some ⟨pm, 0, none⟩) ∧ Γ = [moA pm ps none]) := rnew_c ps
theorem ask_m (pm ps pd : Nat) (t : Option (Int × Int)) (D : Dsk) (G : StG) (m : Nat) (hF : Bnd D G m) (hm : m ≤ 1000000000) (s l : Int) : Cn Tryz.prog 15 [.pointer (some ⟨pm, 0, none⟩), .int .i64 s, .int .i64 l] [moA pm ps t, stoA ps pd D G none] (fun v Γ => (∃ c : Int, c ≠ 0 ∧ v = .int .i64 c ∧ Γ = [moA pm ps t, stoA ps pd D G none]) ∨ ((swS G.x s l).Ok 400 ∧ v = .int .i64 0 ∧ Γ = [moA pm ps (some (s, l)), stoA ps pd D G none])) := by
  intro z R w H
  have h1 := hF.gen
  have h2 := hF.epoch
  cases t with
  | none =>
    refine Ret.mono (ask0_c pm ps pd D G (by omega) s l z R w H) ?_
    rintro v w' ⟨Γ', (⟨_, rfl, rfl⟩ | ⟨h, pl, rfl, rfl⟩), H'⟩
    · exact ⟨_, .inl ⟨1, by decide, rfl, rfl⟩, H'⟩
    · exact ⟨_, .inr ⟨h, rfl, rfl⟩, H'.toMo⟩
  | some e =>
    obtain ⟨pl, H⟩ := H.mo
    refine Ret.mono (Cn.at (ask1_c pm ps pl s l) H 1 [0] rfl rfl) ?_
    rintro v w' ⟨Γ', ⟨rfl, rfl⟩, H'⟩
    exact ⟨_, .inl ⟨17, by decide, rfl, rfl⟩, H'.toMo⟩
theorem busy_m (pm ps : Nat) (t : Option (Int × Int)) : Cn Tryz.prog 14 [.pointer (some ⟨pm, 0, none⟩)] [moA pm ps t] (fun v Γ => v = .bool t.isSome ∧ Γ = [moA pm ps t]) := by
  intro z R w H
  cases t with
  | none => exact busy0_c pm ps z R w H
  | some e =>
    obtain ⟨pl, H⟩ := H.mo
    refine Ret.mono (Cn.at (busy1_c pm ps pl) H 1 [0] rfl rfl) ?_
    rintro v w' ⟨Γ', ⟨rfl, rfl⟩, H'⟩
    exact ⟨_, ⟨rfl, rfl⟩, H'.toMo⟩
theorem step_b (pm ps pd : Nat) (t : Option (Int × Int)) (D : Dsk) (G : StG) (m : Nat) (hF : Bnd D G m) (hm : m ≤ 1000000000) : Cn Tryz.prog 16 [.pointer (some ⟨pm, 0, none⟩)] [moA pm ps t, stoA ps pd D G none] (fun v Γ => ∃ (b : Bool) (c : Int) (D2 : Dsk) (G2 : StG) (t2 : Option (Int × Int)), Bnd D2 G2 (m + 1) ∧ Mv D G D2 G2 ∧ ((G2.x.start = G.x.start ∧ G2.x.len = G.x.len) ∨ t = some (G2.x.start, G2.x.len)) ∧ (t2 = t ∨ t2 = none) ∧ v = .tuple #[.bool b, .int .i64 c] ∧ Γ = [moA pm ps t2, stoA ps pd D2 G2 none]) := by
  intro z R w H
  cases t with
  | none =>
    refine Ret.mono (Cn.at (step0_c pm ps) H 1 [0] rfl rfl) ?_
    rintro v w' ⟨Γ', ⟨rfl, rfl⟩, H'⟩
    exact ⟨_, ⟨_, _, D, G, none, hF.le (by omega), Mv.refl D G, .inl ⟨rfl, rfl⟩, .inl rfl, rfl, rfl⟩, H'⟩
  | some e =>
    obtain ⟨pl, H⟩ := H.mo
    refine Ret.mono (step1_c pm ps pd pl e.1 e.2 D G m hF hm z R w H) ?_
    rintro v w' ⟨Γ', (⟨_, c, D2, G2, hB, hM, hs, _, rfl, rfl⟩ | ⟨_, c, D2, _, hB, hM, _, rfl, rfl⟩ | ⟨_, D2, hB, hM, _, rfl, rfl⟩), H'⟩
    · exact ⟨_, ⟨_, _, D2, G2, some e, hB, hM, .inl hs, .inl rfl, rfl, rfl⟩, H'.toMo⟩
    · exact ⟨_, ⟨_, _, D2, G, some e, hB, hM, .inl ⟨rfl, rfl⟩, .inl rfl, rfl, rfl⟩, H'.toMo⟩
    · exact ⟨_, ⟨_, _, D2, _, none, hB, hM, .inr rfl, .inr rfl, rfl, rfl⟩, H'.pick 3 [0, 2] rfl⟩
theorem step_f (pm ps pd : Nat) (t : Option (Int × Int)) (D : Dsk) (G : StG) (m : Nat) (hF : Fine D G m) (hm : m ≤ 1000000000) (hok : ∀ s l, t = some (s, l) → (swS G.x s l).Ok (D.n : Int)) : Cn Tryz.prog 16 [.pointer (some ⟨pm, 0, none⟩)] [moA pm ps t, stoA ps pd D G none] (fun v Γ => (t = none ∧ v = .tuple #[.bool false, .int .i64 18] ∧ Γ = [moA pm ps t, stoA ps pd D G none]) ∨ (t.isSome = true ∧ ¬ G.home ∧ ∃ (D2 : Dsk) (G2 : StG), Fine D2 G2 (m + 1) ∧ Mv D G D2 G2 ∧ G2.home ∧ (G2.x.start = G.x.start ∧ G2.x.len = G.x.len) ∧ v = .tuple #[.bool false, .int .i64 0] ∧ Γ = [moA pm ps t, stoA ps pd D2 G2 none]) ∨ (t.isSome = true ∧ G.home ∧ ∃ (D2 : Dsk) (G2 : StG), Fine D2 G2 (m + 1) ∧ Mv D G D2 G2 ∧ t = some (G2.x.start, G2.x.len) ∧ v = .tuple #[.bool true, .int .i64 0] ∧ Γ = [moA pm ps none, stoA ps pd D2 G2 none])) := by
  intro z R w H
  cases t with
  | none =>
    refine Ret.mono (Cn.at (step0_c pm ps) H 1 [0] rfl rfl) ?_
    rintro v w' ⟨Γ', ⟨rfl, rfl⟩, H'⟩
    exact ⟨_, .inl ⟨rfl, rfl, rfl⟩, H'⟩
  | some e =>
    obtain ⟨pl, H⟩ := H.mo
    refine Ret.mono (step1_c pm ps pd pl e.1 e.2 D G m hF.bnd hm z R w H) ?_
    rintro v w' ⟨Γ', (⟨hh, c, D2, G2, hB, hM, hs, hfin, rfl, rfl⟩ | ⟨_, c, D2, _, hB, hM, hno, rfl, rfl⟩ | ⟨hh, D2, hB, hM, hcl, rfl, rfl⟩), H'⟩
    · obtain ⟨rfl, hc2, hh2⟩ := hfin ⟨hF.clean, hF.b⟩
      exact ⟨_, .inr (.inl ⟨rfl, hh, D2, G2, hB.fine hc2, hM, hh2, hs, rfl, rfl⟩), H'.toMo⟩
    · exact (hno hF.clean (hok _ _ rfl)).elim
    · exact ⟨_, .inr (.inr ⟨rfl, hh, D2, swG G e.1 e.2, hB.fine ⟨hcl hF.clean, rfl⟩, hM, rfl, rfl, rfl⟩), H'.pick 3 [0, 2] rfl⟩
theorem cut_s (ps pd : Nat) (D : Dsk) (G : StG) (m : Nat) (hF : Bnd D G m) (x : Int) : Cn Tryz.prog 24 [.pointer (some ⟨pd, 0, none⟩), .int .i64 x] [stoA ps pd D G none] (fun v Γ => ∃ (c : Int) (D2 : Dsk), Bnd D2 G m ∧ Mv D G D2 G ∧ v = .int .i64 c ∧ Γ = [stoA ps pd D2 G none]) := by
  intro z R w H
  obtain ⟨X, hX, H⟩ := H.sto
  refine Ret.mono (Cn.at (cut_c pd D x) H 6 [3, 0, 1, 2, 4, 5] rfl rfl) ?_
  rintro v w' ⟨Γ', (⟨_, rfl, rfl⟩ | ⟨_, rfl, rfl⟩), H'⟩
  · exact ⟨_, ⟨1, D, hF, Mv.refl D G, rfl, rfl⟩, (H'.pick 6 [1, 2, 3, 0, 4, 5] rfl).toSto (X := X) 6 hX rfl⟩
  · exact ⟨_, ⟨0, { D with cut := true, left := x }, ⟨hF.ver, hF.gen, hF.epoch, hF.q⟩, ⟨rfl, rfl, rfl, fun e => e⟩, rfl, rfl⟩, (H'.pick 6 [1, 2, 3, 0, 4, 5] rfl).toSto (X := X) 6 ⟨hX.inv.f rfl rfl rfl, hX.l, hX.ok, hX.nu, hX.own⟩ rfl⟩
theorem page7_c (fl : Int) : Cn Tryz.prog 20 [.int .i64 fl] [] (fun v Γ => ∃ b, v = .agg #[.int .i64 5, .slice (some ⟨b, 0, none⟩) 240 240] ∧ Γ = [blk b ((pgF 5 fl).body.map u8) 5]) := by
 intro z R w H'; have H : Sep z (R) w := H'
 clear H'; refine enter Tryz.func20 rfl 19 Tryz.ntmps20 rfl (k_seq (s_region (s_go rfl rfl rfl (n_alloc (P := Tryz.prog) H rfl (zs := [.int .i64 0, .slice none 0 0]) (by kernel_rfl)) ?_))); rintro _ w ⟨b1, rfl, H'⟩; have H := H'.l1; clear H'; refine s_end (k_seq (s_region (s_go rfl rfl rfl (n_make (k := 240) H rfl (by kernel_rfl) (Elt.mk (P := Tryz.prog) (e := 5) (z := u8 0) (sz := 1) (by_ := 1) (by kernel_rfl) rfl (by omega) (by omega)) rfl rfl rfl (by omega)) ?_))); rintro _ w ⟨b2, rfl, H'⟩; have H := H'.l2; clear H'; refine s_M 1 rfl rfl (s_end (k_seq (k_seq (s_region (s_M 1 rfl rfl (s_end (k_block ?_))))))); refine c_loop (σ := Nat) (fun i => [(4, .int .i64 (i : Int)), (0, .int .i64 fl), (2, .pointer (some ⟨b1, 0, none⟩)), (3, .slice (some ⟨b2, 0, none⟩) 240 240)])
   (fun i w => Sep z (blk b2 ((List.replicate i (byt fl) ++ List.replicate (240 - i) (0 : UInt8)).map u8) 5 :: blk b1 [.int .i64 0, .slice none 0 0] 65 :: R) w ∧ (i ≤ 240)) (fun i => 240 - i) 0
   (fun _ hF => (hF.cons (hF.cons (hF.cons (hF.cons hF.nil 3 _ _ rfl rfl) 2 _ _ rfl rfl) 0 _ _ rfl rfl) 4 _ _ rfl (by go_num))) ⟨(by simpa [u8] using H), by omega⟩ ?_
 clear H; rintro i w ⟨H', hI⟩; have H := H'.l2; clear H'; have hi := hI; clear hI
 refine k_seq (k_seq (s_region (s_M 2 rfl rfl (s_do rfl rfl rfl (d_len rfl (z := 1) (by kernel_rfl) rfl) (s_M 1 rfl rfl (s_end (k_dec rfl (fun h1 => ?_) (fun h1 => ?_))))))))
 ·refine k_skip (k_seq (k_block (s_region (s_M 3 rfl rfl (s_do rfl rfl rfl (d_to8 rfl (by kernel_rfl) rfl) (s_do rfl rfl rfl (d_index rfl (z := 1) (j := i) (r := i) (by kernel_rfl) rfl rfl rfl (by omega) (by omega)) (s_put rfl rfl (n_store 0 H rfl rfl rfl rfl (vs := [u8 (byt fl)]) rfl (by simp [u8, u32, Value.oneCell']) (by kernel_rfl) (by simp; omega) (out := ((List.replicate (i + 1) (byt fl) ++ List.replicate (240 - (i + 1)) (0 : UInt8)).map u8)) (fill_step i _ _ (by omega))) ?_))))))); rintro w H'; have H := H'.l2; clear H'; refine s_end (s_region (s_M 1 rfl rfl (s_do rfl rfl rfl (d_add64 rfl rfl rfl (r := (i : Int) + 1) (by omega) (by omega)) (s_M 1 rfl rfl (s_end ?_))))); intro _ hF; refine ⟨(i + 1), (hF.cons (hF.cons (hF.cons (hF.cons hF.nil 3 _ _ rfl rfl) 2 _ _ rfl rfl) 0 _ _ rfl rfl) 4 _ _ rfl (by go_num)), ⟨H, ?_⟩, ?_⟩
  ·omega
  ·omega
 ·obtain rfl : i = 240 := by omega
  refine k_exit (k_here (k_seq (s_region (s_M 1 rfl rfl (s_do rfl rfl rfl (d_build rfl rfl (out := [.int .i64 5, .slice (some ⟨b2, 0, none⟩) 240 240]) (by kernel_rfl)) (s_put rfl rfl (n_store 1 H rfl rfl rfl rfl (vs := [.int .i64 5, .slice (some ⟨b2, 0, none⟩) 240 240]) rfl (by simp [u8, u32, Value.oneCell']) (by kernel_rfl) (by simp) (out := [.int .i64 5, .slice (some ⟨b2, 0, none⟩) 240 240]) rfl) ?_)))))); rintro w H'; have H := H'.l2; clear H'; refine s_end (k_ret (doneL rfl [.agg #[.int .i64 5, .slice (some ⟨b2, 0, none⟩) 240 240]] ⟨⟨_, _, rfl, run_loadBlk (by kernel_rfl) (H.blk 1 rfl) (vs := [.int .i64 5, .slice (some ⟨b2, 0, none⟩) 240 240]) rfl⟩, trivial⟩ (v := .agg #[.int .i64 5, .slice (some ⟨b2, 0, none⟩) 240 240]) rfl ?_)); rw [show (List.replicate 240 (byt fl) ++ List.replicate (240 - 240) (0 : UInt8)).map u8 = (pgF 5 fl).body.map u8 from by simp [pgF]] at H; exact ⟨[blk b2 ((pgF 5 fl).body.map u8) 5], ⟨b2, rfl, rfl⟩, H.perm 2 [0] rfl rfl⟩
end Go.Proofs.YtbegkbjigbkljaaGreatDoor
namespace Go.Proofs.YtbegkbjigbkljaaGreatDoor
open Go.RowKit
theorem ask_i (pm ps pd : Nat) (D : Dsk) (G : StG) (m : Nat) (hF : Bnd D G m) (hm : m ≤ 1000000000) (s l : Int) (hok : (swS G.x s l).Ok 400) : Cn Tryz.prog 15 [.pointer (some ⟨pm, 0, none⟩), .int .i64 s, .int .i64 l] [moA pm ps none, stoA ps pd D G none] (fun v Γ => v = .int .i64 0 ∧ Γ = [moA pm ps (some (s, l)), stoA ps pd D G none]) := by
  intro z R w H
  have h1 := hF.gen
  have h2 := hF.epoch
  refine Ret.mono (ask0_c pm ps pd D G (by omega) s l z R w H) ?_
  rintro v w' ⟨Γ', (⟨h, rfl, rfl⟩ | ⟨h, pl, rfl, rfl⟩), H'⟩
  · exact absurd hok h
  · exact ⟨_, ⟨rfl, rfl⟩, H'.toMo⟩
set_option maxHeartbeats 2000000 in
theorem formatted_c  : Cn Tryz.prog 6 [] [] (fun v Γ => ∃ (pd ps : Nat) (D0 : Dsk), Fine D0 g07 3 ∧ D0.n = 400 ∧ v = .tuple #[.pointer (some ⟨pd, 0, none⟩), .pointer (some ⟨ps, 0, none⟩)] ∧ Γ = [stoA ps pd D0 g07 none]) := by
 intro z R w H'; have H : Sep z (R) w := H'
 clear H'; refine enter Tryz.func6 rfl 30 Tryz.ntmps6 rfl (k_seq (s_region (s_M 2 rfl rfl (s_end (k_seq (s_region (s_C rfl rfl rfl rfl rfl (fun w => Tryz.call27 _ w) (dnew_c 400) H rfl ?_))))))); rintro _ w _ (⟨hn_, rfl, rfl⟩ | ⟨_, pd, rfl, rfl⟩) H'
 ·exact absurd (by omega) hn_
 ·have H := H'.l1; clear H'; refine s_M 5 rfl rfl (s_end (k_seq (k_seq (s_region (s_M 2 rfl rfl (k_updA 11 (u := .bool (decide ((0 : Int) ≠ 0))) (v := .bool false) rfl (congrArg Value.bool (by decide)) (s_M 2 rfl rfl (s_do rfl rfl rfl (d_eql_pn rfl (by kernel_rfl) rfl rfl) (s_M 3 rfl rfl (s_C rfl rfl rfl rfl rfl (fun w => Tryz.call28 _ w) (format_c _ 400 _ _ _ (fm_ok (by omega) (by omega) (by omega) (by omega) (by omega))) H rfl ?_)))))))))); rintro _ w _ ⟨rfl, rfl⟩ H'; have H := H'.l1; clear H'; refine s_M 1 rfl rfl (k_updA 19 (u := .bool (decide ((0 : Int) ≠ 0))) (v := .bool false) rfl (congrArg Value.bool (by decide)) (s_M 1 rfl rfl (s_end (k_false rfl (k_skip (k_seq (s_region (s_M 1 rfl rfl (s_C rfl rfl rfl rfl rfl (fun w => Tryz.call26 _ w) (open_s _ _ _ _ _ _ (fm_open (fm_ok (n := 400) (p := 16) (s := 18) (l := 64) (by omega) (by omega) (by omega) (by omega) (by omega))) (fm_clean _ _ _ _) (show (2 : Int) ≤ (2 : Nat) ∧ (1 : Int) ≤ (2 : Nat) by omega) (by omega)) H rfl ?_))))))))); rintro _ w _ ⟨ps, D0, got0, hgd0, fi0, hn0, rfl, rfl⟩ H'; have H := H'.l1; clear H'; subst hgd0; have H' : Sep z (stoA ps pd D0 (opG (fmS 16 18 64 2) (fun _ => noPg)) none :: R) w := H
  clear H; have H := H'.l1; clear H'; refine s_M 5 rfl rfl (s_end (k_seq (k_seq (s_region (s_M 2 rfl rfl (k_updA 27 (u := .bool (decide ((0 : Int) ≠ 0))) (v := .bool false) rfl (congrArg Value.bool (by decide)) (s_end (k_false rfl (k_skip (k_seq (s_region (s_M 4 rfl rfl (s_end ?_))))))))))))); refine k_ret (doneL rfl [.pointer (some ⟨pd, 0, none⟩), .pointer (some ⟨ps, 0, none⟩)] ⟨rfl, ⟨rfl, trivial⟩⟩ (v := .tuple #[.pointer (some ⟨pd, 0, none⟩), .pointer (some ⟨ps, 0, none⟩)]) rfl ?_); exact ⟨[stoA ps pd D0 (opG (fmS 16 18 64 2) (fun _ => noPg)) none], ⟨_, _, D0, fi0, hn0, rfl, rfl⟩, H⟩
set_option maxHeartbeats 2000000 in
theorem known_c  : Cn Tryz.prog 8 [] [] (fun v Γ => v = .bool true ∧ Γ = []) := by
 intro z R w H'; have H : Sep z (R) w := H'
 clear H'; refine enter Tryz.func8 rfl 92 Tryz.ntmps8 rfl (k_seq (s_region (s_M 1 rfl rfl (s_end (k_seq (s_region (s_C rfl rfl rfl rfl rfl (fun w => Tryz.call6 _ w) (formatted_c ) H rfl ?_))))))); rintro _ w _ ⟨pd, ps, D0, fi0, hn0, rfl, rfl⟩ H'; have H := H'.l1; clear H'; refine s_M 5 rfl rfl (s_end (k_seq (k_seq (s_region (s_M 1 rfl rfl (s_do rfl rfl rfl (d_eql_pn rfl (by kernel_rfl) rfl rfl) (s_M 1 rfl rfl (s_C rfl rfl rfl rfl rfl (fun w => Tryz.call11 _ w) (rnew0_c ) H rfl ?_)))))))); rintro _ w _ ⟨rfl, rfl⟩ H'; have H := H'.l1; clear H'; refine s_do rfl rfl rfl (d_neq_nn rfl (by kernel_rfl) rfl rfl) (s_M 1 rfl rfl (s_end (k_false rfl (k_skip (k_seq (s_region (s_M 1 rfl rfl (s_C rfl rfl rfl rfl rfl (fun w => Tryz.call11 _ w) (new_m _) H rfl ?_)))))))); rintro _ w _ ⟨pm, rfl, rfl⟩ H'; have H := H'.l2; clear H'; refine s_M 1 rfl rfl (s_end (k_seq (k_seq (s_region (s_M 1 rfl rfl (s_do rfl rfl rfl (d_eql_pn rfl (by kernel_rfl) rfl rfl) (s_end (k_false rfl (k_skip (k_seq (s_region (s_M 1 rfl rfl (s_C rfl rfl rfl rfl rfl (fun w => Tryz.call18 _ w) (begin_s _ _ _ _) H.f1 rfl ?_))))))))))))); rintro _ w _ ⟨rfl, rfl⟩ H'; have H := H'.l2; clear H'; refine s_M 1 rfl rfl (s_end (k_seq (s_region (s_M 1 rfl rfl (s_C rfl rfl rfl rfl rfl (fun w => Tryz.call20 _ w) (page7_c _) H rfl ?_))))); rintro _ w _ ⟨pb1, rfl, rfl⟩ H'; have H := H'.l3; clear H'; refine s_C rfl rfl rfl rfl rfl (fun w => Tryz.call19 _ w) (write_s ps pd D0 g07 _ _ 3 (show ((3 : Nat) : Int) < 16 by omega) (pgF 5 7) (pgF_ok 7 (by omega)) _ _ (fun h q => blk_rd0 q (by rw [List.length_map]; exact pgF_len _ _))) H.f1 rfl ?_
 rintro _ w _ (⟨hbad, rfl, rfl⟩ | ⟨_, rfl, rfl⟩) H'
 ·(exfalso; have hbk := hbad.2; omega)
 ·have H := H'.l3; clear H'; refine s_M 1 rfl rfl (s_end (k_seq (s_region (s_M 1 rfl rfl (s_C rfl rfl rfl rfl rfl (fun w => Tryz.call21 _ w) (commit_s _ _ _ _ _ _ 3 fi0 (by omega)) H rfl ?_))))); rintro _ w _ ⟨D1, G1, fi1, hn1, ⟨hM1, hns1⟩, hx1, rfl, rfl⟩ H'; have H := H'.l3; clear H'; refine s_M 1 rfl rfl (s_end (k_seq (s_region ?_))); have hp1 : G1.x.pages = 16 := by rcases hx1 with e | e <;> rw [e] <;> rfl
  have hz1 := H.says 0 rfl (fun h q => stoA.gen0 q)
  have hg1 := fi1.gen
  have he1 := fi1.epoch
  have hnh1 : ¬ G1.home := fun h => by have := hns1 3 (by simp [pgSet]); rw [h] at this; cases this
  have hA1 : (swS G1.x 100 70).Ok (D1.n : Int) := by rw [hn1, hn0]; exact sw_ok _ (by omega) hp1 (by omega) (by omega)
  refine s_M 1 rfl rfl (s_C rfl rfl rfl rfl rfl (fun w => Tryz.call15 _ w) (ask_i _ _ _ _ _ _ fi1.bnd (by omega) 100 70 (by have := hA1; rw [hn1, hn0] at this; exact this)) H.f2 rfl ?_); rintro _ w _ ⟨rfl, rfl⟩ H'; have H := H'.l3; clear H'; refine s_M 1 rfl rfl (s_end (k_seq (s_region (s_M 1 rfl rfl (s_C rfl rfl rfl rfl rfl (fun w => Tryz.call16 _ w) (step_f _ _ _ (some (100, 70)) D1 G1 5 fi1 (by omega) (fun s l e => by cases e; exact hA1)) H rfl ?_))))); rintro _ w _ (⟨ht2, rfl, rfl⟩ | ⟨ht2, hh2, D2, G2, fi2, hMv2, hg2, hsl2, rfl, rfl⟩ | ⟨ht2, hh2, D2, G2, fi2, hMv2, hsl2, rfl, rfl⟩) H'
  ·cases ht2
  ·have H := H'.l3; clear H'; refine s_M 5 rfl rfl (s_end (k_seq (s_region ?_))); have hg2_ := hg2
   have hz2 := H.says 1 rfl (fun h q => stoA.gen0 q)
   have hg2 := fi2.gen
   have he2 := fi2.epoch
   have hA2 : (swS G2.x 100 70).Ok (D2.n : Int) := by rw [hMv2.n, hn1, hn0]; exact sw_ok _ (by omega) (hMv2.pages.trans hp1) (by omega) (by omega)
   refine s_M 1 rfl rfl (s_C rfl rfl rfl rfl rfl (fun w => Tryz.call16 _ w) (step_f _ _ _ (some (100, 70)) D2 G2 6 fi2 (by omega) (fun s l e => by cases e; exact hA2)) H rfl ?_); rintro _ w _ (⟨ht3, rfl, rfl⟩ | ⟨ht3, hh3, D3, G3, fi3, hMv3, hg3, hsl3, rfl, rfl⟩ | ⟨ht3, hh3, D3, G3, fi3, hMv3, hsl3, rfl, rfl⟩) H'
   ·cases ht3
   ·exact absurd hg2_ hh3
   ·have H := H'.l3; clear H'; refine s_M 5 rfl rfl (s_end (k_seq (s_region (s_M 1 rfl rfl (s_C rfl rfl rfl rfl rfl (fun w => Tryz.call13 _ w) (super_s ps pd D3 G3 none) H.f1 rfl ?_))))); rintro _ w _ ⟨rfl, rfl⟩ H'; have H := H'.l3; clear H'; simp only [Option.some.injEq, Prod.mk.injEq] at hsl3
    have hs3 : G3.x.start = 100 := by omega
    have hl3 : G3.x.len = 70 := by omega
    refine s_go rfl rfl rfl (n_alloc (P := Tryz.prog) H rfl (zs := [.int .i64 0, .int .i64 0, .int .i64 0, .int .i64 0, .int .i64 0, .int .i64 0, .int .i64 0]) (by kernel_rfl)) ?_; rintro _ w ⟨b2, rfl, H'⟩; have H := H'.l4; clear H'; refine s_put rfl rfl (n_store 0 H rfl rfl rfl rfl (vs := [.int .i64 G3.x.gen, .int .i64 G3.x.epoch, .int .i64 G3.x.pages, .int .i64 G3.x.start, .int .i64 G3.x.len, .int .i64 G3.x.head, .int .i64 G3.x.seq]) rfl (by simp [u8, u32, Value.oneCell']) (by kernel_rfl) (by simp) (out := [.int .i64 G3.x.gen, .int .i64 G3.x.epoch, .int .i64 G3.x.pages, .int .i64 G3.x.start, .int .i64 G3.x.len, .int .i64 G3.x.head, .int .i64 G3.x.seq]) rfl) ?_; rintro w H'; have H := H'.l4; clear H'; refine s_end (k_seq (s_region (s_M 2 rfl rfl (k_updA 49 (u := .bool (decide ((0 : Int) = 0))) (v := .bool true) rfl (congrArg Value.bool (by decide)) (s_M 3 rfl rfl (k_updA 52 (u := .bool (decide ((0 : Int) = 0))) (v := .bool true) rfl (congrArg Value.bool (by decide)) (s_M 4 rfl rfl (k_updA 56 (u := .bool (decide ((0 : Int) = 0))) (v := .bool true) rfl (congrArg Value.bool (by decide)) (s_M 4 rfl rfl (k_updA 60 (u := .bool (decide ((0 : Int) = 0))) (v := .bool true) rfl (congrArg Value.bool (by decide)) (s_M 8 rfl rfl (k_updA 68 (u := .bool (decide ((0 : Int) = 0))) (v := .bool true) rfl (congrArg Value.bool (by decide)) (s_M 7 rfl rfl ?_))))))))))))); refine k_updA 75 (u := .bool (decide ((0 : Int) = 0))) (v := .bool true) rfl (congrArg Value.bool (by decide)) (s_L 5 [3, 0] (mm1 (H.blk 0 rfl) mm0) rfl (by kernel_rfl) rfl (k_updA 80 (u := .bool (decide ((G3.x.start : Int) = 100))) (v := .bool true) rfl (congrArg Value.bool (decide_eq_true hs3)) (s_L 5 [4, 0] (mm1 (H.blk 0 rfl) mm0) rfl (by kernel_rfl) rfl (k_updA 85 (u := .bool (decide ((G3.x.len : Int) = 70))) (v := .bool true) rfl (congrArg Value.bool (decide_eq_true hl3)) (s_M 3 rfl rfl (s_C rfl rfl rfl rfl rfl (fun w => Tryz.call14 _ w) (busy_m _ _ _) H.f2 rfl ?_))))))
    rintro _ w _ ⟨rfl, rfl⟩ H'; have H := H'.l4; clear H'; refine s_M 3 rfl rfl (s_end (k_ret (doneL rfl [.bool true] ⟨rfl, trivial⟩ (v := .bool true) rfl ?_))); exact ⟨[], ⟨rfl, rfl⟩, H.perm 4 [] rfl rfl⟩
  ·exact absurd hh2 hnh1
end Go.Proofs.YtbegkbjigbkljaaGreatDoor
namespace Go.Proofs.YtbegkbjigbkljaaGreatDoor
open Go.RowKit
structure RoM where
  k0 : Int
  k1 : Int
  k2 : Int
  k3 : Int
  k4 : Int
  k5 : Bool
abbrev i64In (x : Int) : Prop := -9223372036854775808 ≤ x ∧ x ≤ 9223372036854775807
def RoM.In (d : RoM) : Prop := i64In d.k0 ∧ i64In d.k3
abbrev RoE := RoM × Value
def RoE.cells (e : RoE) : List Value := [.int .i64 e.1.k0, .int .i64 e.1.k1, .int .i64 e.1.k2, .int .i64 e.1.k3, .int .i64 e.1.k4, .bool e.1.k5, e.2]
theorem pgF_get (f : Int) (rest : List Value) {o : Nat} (ho : o < 240) : ((pgF 5 f).body.map u8 ++ rest)[o]? = some (u8 (byt f)) := by
  rw [List.getElem?_append_left (by simp [pgF]; omega)]
  show ((List.replicate 240 (byt f)).map u8)[o]? = _
  rw [List.map_replicate, List.getElem?_replicate, if_pos ho]
theorem read_p (ps pd : Nat) (D : Dsk) (G : StG) (n : Nat) (hn : (n : Int) < G.x.pages) (hf1 : D.f1 = 0) (c : Prop) (f : Int) (hM : (c ∧ G.M n = noPg) ∨ (¬ c ∧ G.M n = pgF 5 f)) :
    Cn Tryz.prog 22 [.pointer (some ⟨ps, 0, none⟩), .int .i64 (n : Int)] [stoA ps pd D G none] (fun v Γ => (c ∧ v = .tuple #[.agg #[.int .i64 0, .slice none 0 0], .int .i64 0] ∧ Γ = [stoA ps pd D G none]) ∨ (¬ c ∧ ∃ (g cap : Nat) (rest : List Value), 240 ≤ cap ∧ v = .tuple #[.agg #[.int .i64 5, .slice (some ⟨g, 0, none⟩) 240 cap], .int .i64 0] ∧ Γ = [blk g ((pgF 5 f).body.map u8 ++ rest) 5, stoA ps pd D G none])) := by
  intro z R w H
  refine Ret.mono (read_s ps pd D G none n hn hf1 (G.M n) rfl z R w H) ?_
  rintro v w' ⟨Γ', (⟨hno, rfl, rfl⟩ | ⟨hyes, v1, rfl, rfl⟩), H'⟩
  · rcases hM with ⟨e, _⟩ | ⟨_, hM⟩
    · exact ⟨_, .inl ⟨e, rfl, rfl⟩, H'⟩
    · rw [hM] at hno; exact absurd (congrArg Pg.kind hno) (show ¬ (5 : Int) = 0 by decide)
  · rcases hM with ⟨_, hM⟩ | ⟨e, hM⟩
    · rw [hM] at hyes; exact absurd hyes.1.1 (show ¬ (1 : Int) ≤ 0 by decide)
    · rw [hM] at H' ⊢
      obtain ⟨g, cap, rest, rfl, h1, h2, h3, H2⟩ := H'.ungrow 0 rfl (by omega)
      exact ⟨_, .inr ⟨e, g, cap, rest, by omega, rfl, rfl⟩, H2⟩
end Go.Proofs.YtbegkbjigbkljaaGreatDoor
namespace Go.Proofs.YtbegkbjigbkljaaGreatDoor
open Go.ChangeShapes Go.WideShapes Go.ChangeAt Go.RowKit Go.Joins
theorem own : ownKnob Tryz.prog.godebug = none := by kernel_rfl
theorem laidOut : laidOutB Tryz.prog = true := by kernel_rfl
theorem int_cells : Tryz.prog.cellsOf 3 = 1 := by kernel_rfl
theorem cel_base {W : World} {b o : Nat} {v : Value} (hc : Cel b o v W) : ∀ h, base W h → celH h b o v := fun h hb => by
  unfold Cel World.cell? at hc
  cases hh : W.heap[b]? with
  | none => rw [hh] at hc; simp at hc
  | some o' =>
    rw [hh] at hc
    cases o' with
    | cells cs ty fr =>
      simp at hc
      have hlt : b < W.heap.size := by
        rcases Nat.lt_or_ge b W.heap.size with q | q
        · exact q
        · rw [Array.getElem?_eq_none q] at hh; cases hh
      exact ⟨cs, ty, fr, (hb b hlt).trans hh, hc⟩
    | _ => simp at hc
theorem rd_base {sz : Nat} {v : Value} {n : Nat} {xs : List Value} {W : World} (r : Rd sz v n xs W) : ∀ h, base W h → rdH sz v n xs h := fun h hb => by
  obtain ⟨ao, c, e, h1, h2, h3, h4⟩ := r
  exact ⟨ao, c, e, h1, h2, h3, fun j u hj => by
    obtain ⟨b, p, e', hc⟩ := h4 j u hj
    exact ⟨b, p, e', cel_base hc h hb⟩⟩
theorem open_rdB {H : Type} {enc : TypeId × Value → H} {W : World} {fuel : Nat} {v : Value} {d : DataW H} {p : List MemPlace} (h : DataW.trod enc Tryz.prog W 0 (fun _ => true) true fuel 45 [v] = some (d, p)) : ∃ xs : List Int, Rd 1 v xs.length (xs.map (Value.int .i64)) W ∧ xs.length ≤ Rows.uptoBulk d := by
  have hall : ∀ (l : List Int), l.length ≤ Rows.uptoBulkAll (lits (H := H) .i64 l) := fun l => by
    induction l with
    | nil => simp
    | cons x l ih => simp only [lits, List.map_cons, Rows.uptoBulkAll, Rows.uptoBulk, List.length_cons] at ih ⊢; omega
  rcases open_ints Tryz.underlying45 Tryz.underlying3 int_cells h with ⟨hcs, hx⟩ | ⟨a, len, cap, zs, hcs, _, hl, hm, hz, hx, hcell, _⟩
  · simp only [List.cons.injEq, and_true] at hcs; subst hcs; exact ⟨[], by simpa using Rd.nil 1 W, by simp⟩
  · simp only [List.cons.injEq, and_true] at hcs; subst hcs
    simp only [if_true] at hz
    have hd : d = .slice (lits .i64 (zs.take len)) (lits .i64 (zs.drop len)) := by have := congrArg Prod.fst hx; simpa using this
    refine ⟨zs.take len, ⟨some a, cap, by simp [hz, Nat.min_eq_left hl], by simp [hz, Nat.min_eq_left hl, hl], (by unfold maxLen at hm; omega), by simp, fun j u hj => ?_⟩, ?_⟩
    · rw [List.getElem?_map] at hj
      obtain ⟨y, hy, rfl⟩ := Option.map_eq_some_iff.1 hj
      have hjl : j < len := by
        have := (List.getElem?_eq_some_iff.1 hy).1
        simp at this; omega
      have hy' : zs[j]? = some y := by rw [List.getElem?_take] at hy; simpa [hjl] using hy
      have hc := hcell j (by omega)
      rw [show zs.getD j 0 = y from by simp [List.getD, hy']] at hc
      obtain ⟨b, off, spot⟩ := a
      have hspot : spot = none := by
        have h0 := hcell 0 (by omega)
        simpa [Addr.add] using World.cell?_spot h0
      subst hspot
      exact ⟨b, off, rfl, by unfold Cel; rw [← Go.WideShapes.add_plain]; exact hc⟩
    · rw [hd]; have := hall (zs.take len); simp only [Rows.uptoBulk]; omega
theorem Cn.run {P : Program} {f : FuncId} {args : List Value} {W : World} {u : Value} (h : Cn P f args [base W] (fun v Γ => v = u ∧ Γ = [base W])) : Calls P f args.toArray W (Ret fun v W' => v = u ∧ Ext No W W') := by
  refine Ret.mono (h W [] W (by simpa using Sep.start W)) ?_
  rintro v W' ⟨Γ, ⟨rfl, rfl⟩, H⟩
  exact ⟨rfl, Sep.done 0 H rfl⟩
def flatW : DataW Unit → List Value
  | .lit (.int k n) => [.int k n]
  | .agg parts => flatWs parts
  | _ => []
where flatWs : List (DataW Unit) → List Value
  | [] => []
  | d :: ds => flatW d ++ flatWs ds
def lay1 : Obj → Obj
  | .cells c t frozen => .cells (if c.size = 32 then (flatW Rows.laid_unicode_utf8_acceptRanges).toArray else (flatW Rows.laid_unicode_utf8_first).toArray) t frozen
  | o => o
noncomputable def laidWorld (os : Os) : World :=
  { World.holding Tryz.prog os ⟨#[], #[], []⟩ with heap := ((World.holding Tryz.prog os ⟨#[], #[], []⟩).heap.modify 0 lay1).modify 1 lay1 }
section
variable {H : Type} {enc : TypeId × Value → H} {P : Program} {w : World} {base : Nat} {spare : Nat → Bool} {held : Bool}
end
section
variable {H : Type} {enc : TypeId × Value → H} {P : Program} {w : World} {base : Nat} {spare : Nat → Bool} {held : Bool}
theorem trod5 {t0 t1 t2 t3 t4 : TypeId} {args : Array Value} {ds : List (DataW H)} {ps : List MemPlace} (h : DataW.TrodAll enc P w base spare held [t0, t1, t2, t3, t4] args.toList ds ps) :
    ∃ v0 v1 v2 v3 v4 d0 d1 d2 d3 d4 p0 p1 p2 p3 p4, args = #[v0, v1, v2, v3, v4] ∧ ds = [d0, d1, d2, d3, d4] ∧ ps = p0 ++ (p1 ++ (p2 ++ (p3 ++ p4))) ∧ DataW.Trod enc P w base spare held t0 v0 d0 p0 ∧ DataW.Trod enc P w base spare held t1 v1 d1 p1 ∧ DataW.Trod enc P w base spare held t2 v2 d2 p2 ∧ DataW.Trod enc P w base spare held t3 v3 d3 p3 ∧ DataW.Trod enc P w base spare held t4 v4 d4 p4 := by
  obtain ⟨v0, vs0, d0, ds0, p0, q0, hargs, rfl, rfl, hd0, hr0⟩ := trodAll_cons h
  obtain ⟨v1, vs1, d1, ds1, p1, q1, rfl, rfl, rfl, hd1, hr1⟩ := trodAll_cons hr0
  obtain ⟨v2, vs2, d2, ds2, p2, q2, rfl, rfl, rfl, hd2, hr2⟩ := trodAll_cons hr1
  obtain ⟨v3, vs3, d3, ds3, p3, q3, rfl, rfl, rfl, hd3, hr3⟩ := trodAll_cons hr2
  obtain ⟨v4, vs4, d4, ds4, p4, q4, rfl, rfl, rfl, hd4, hr4⟩ := trodAll_cons hr3
  obtain ⟨rfl, rfl, rfl⟩ := trodAll_nil hr4
  exact ⟨v0, v1, v2, v3, v4, d0, d1, d2, d3, d4, p0, p1, p2, p3, p4, by cases args; simp_all, rfl, by simp, hd0, hd1, hd2, hd3, hd4⟩
theorem trodmk5 {t0 t1 t2 t3 t4 : TypeId} {v0 v1 v2 v3 v4 : Value} {d0 d1 d2 d3 d4 : DataW H} {p0 p1 p2 p3 p4 : List MemPlace} (h0 : DataW.Trod enc P w base spare held t0 v0 d0 p0) (h1 : DataW.Trod enc P w base spare held t1 v1 d1 p1) (h2 : DataW.Trod enc P w base spare held t2 v2 d2 p2) (h3 : DataW.Trod enc P w base spare held t3 v3 d3 p3) (h4 : DataW.Trod enc P w base spare held t4 v4 d4 p4) : DataW.TrodAll enc P w base spare held [t0, t1, t2, t3, t4] [v0, v1, v2, v3, v4] [d0, d1, d2, d3, d4] (p0 ++ (p1 ++ (p2 ++ (p3 ++ p4)))) :=
  ⟨p0, _, h0, ⟨p1, _, h1, ⟨p2, _, h2, ⟨p3, _, h3, (trodAll_mk1 h4), rfl⟩, rfl⟩, rfl⟩, rfl⟩
end
end Go.Proofs.YtbegkbjigbkljaaGreatDoor
namespace Go.Proofs.YtbegkbjigbkljaaGreatDoor
open Go.RowKit
def laL (la : Nat → Bool) : List Value := (List.range 16).map fun i => Value.bool (la i)
theorem laL_len (la : Nat → Bool) : (laL la).length = 16 := by simp [laL]
theorem laL_get (la : Nat → Bool) {n : Nat} (h : n < 16) : (laL la)[n]? = some (.bool (la n)) := by simp [laL, h]
theorem laL_set (la : Nat → Bool) (x : Bool) {n : Nat} (h : n < 16) : (laL la).take n ++ [Value.bool x] ++ (laL la).drop (n + 1) = laL (upf la n x) := by
  have e : (laL la).take n ++ [Value.bool x] ++ (laL la).drop (n + 1) = (laL la).set n (.bool x) := by
    rw [List.set_eq_take_append_cons_drop, if_pos (by rw [laL_len]; exact h), List.append_assoc]; rfl
  rw [e]
  apply List.ext_getElem?
  intro i
  rcases Nat.lt_or_ge i 16 with hi | hi
  · rw [laL_get _ hi, List.getElem?_set]
    by_cases q : n = i
    · subst q; rw [if_pos rfl, if_pos (by rw [laL_len]; exact h), upf_same]
    · rw [if_neg q, laL_get _ hi, upf_other _ _ (fun e => q e.symm)]
  · rw [List.getElem?_eq_none (by rw [List.length_set, laL_len]; omega), List.getElem?_eq_none (by rw [laL_len]; omega)]
def laP (la : Nat → Bool) (M : Nat → Pg) : Prop := ∀ n, n < 16 → (la n = false ∧ M n = noPg) ∨ (¬ la n = false ∧ M n = pgF 5 ((n : Int) + 1))
theorem laP_set {la : Nat → Bool} {M : Nat → Pg} (h : laP la M) (n k : Nat) : laP (upf la n true) (curPg M (some (pgSet noPgs n (pgF 5 ((n : Int) + 1)), k))) := by
  intro i hi
  by_cases e : i = n
  · subst e
    refine .inr ⟨by rw [upf_same]; decide, ?_⟩
    show (pgSet noPgs i _ i).getD _ = _
    simp [pgSet]
  · have hm : curPg M (some (pgSet noPgs n (pgF 5 ((n : Int) + 1)), k)) i = M i := by
      show (pgSet noPgs n _ i).getD _ = _
      simp [pgSet, e, noPgs]
    rw [upf_other _ _ e, hm]
    exact h i hi
theorem step_w (pm ps pd : Nat) (t : Option (Int × Int)) (s l : Int) (hW : ∀ a b, t = some (a, b) → a = s ∧ b = l) (D : Dsk) (G : StG) (m : Nat) (hF : Bnd D G m) (hm : m ≤ 1000000000) : Cn Tryz.prog 16 [.pointer (some ⟨pm, 0, none⟩)] [moA pm ps t, stoA ps pd D G none] (fun v Γ => ∃ (b : Bool) (c : Int) (D2 : Dsk) (G2 : StG) (t2 : Option (Int × Int)), Bnd D2 G2 (m + 1) ∧ Mv D G D2 G2 ∧ ((G2.x.start = G.x.start ∧ G2.x.len = G.x.len) ∨ (G2.x.start = s ∧ G2.x.len = l)) ∧ (∀ a b, t2 = some (a, b) → a = s ∧ b = l) ∧ v = .tuple #[.bool b, .int .i64 c] ∧ Γ = [moA pm ps t2, stoA ps pd D2 G2 none]) := by
  refine Cn.mono (step_b pm ps pd t D G m hF hm) ?_
  rintro v Γ ⟨b, c, D2, G2, t2, hB, hM, hs, ht, rfl, rfl⟩
  refine ⟨b, c, D2, G2, t2, hB, hM, ?_, ?_, rfl, rfl⟩
  · rcases hs with hs | hs
    · exact .inl hs
    · exact .inr (hW _ _ hs)
  · rcases ht with rfl | rfl
    · exact hW
    · intro a b e; cases e
theorem step0_m (pm ps : Nat) : Cn Tryz.prog 16 [.pointer (some ⟨pm, 0, none⟩)] [moA pm ps none] (fun v Γ => v = .tuple #[.bool false, .int .i64 18] ∧ Γ = [moA pm ps none]) := step0_c pm ps
set_option maxHeartbeats 8000000 in
theorem relogCrash_c (v pkv : Value) (s l cut : Int) (qs pk : List Int) (hq : qs.length ≤ 1048576) (A : Asn) (hA : ∀ h, A h → rdH 1 v qs.length (qs.map (Value.int .i64)) h ∧ rdH 1 pkv pk.length (pk.map (Value.int .i64)) h) : Cn Tryz.prog 5 [v, .int .i64 s, .int .i64 l, .int .i64 cut, pkv] [A] (fun v Γ => v = .bool true ∧ Γ = [A]) := by
 intro z R w H'; have H : Sep z (A :: R) w := H'
 clear H'; obtain ⟨ao, oc, rfl⟩ := H.says 0 rfl (fun h q => (hA h q).1.slc); refine enter Tryz.func5 rfl 191 Tryz.ntmps5 rfl (k_seq (s_region (s_M 1 rfl rfl (s_end (k_seq (s_region (s_C rfl rfl rfl rfl rfl (fun w => Tryz.call6 _ w) (formatted_c ) H rfl ?_))))))); rintro _ w _ ⟨pd, ps, D0, fi0, hn0, rfl, rfl⟩ H'; have H := H'.l2; clear H'; refine s_M 5 rfl rfl (s_end (k_seq (k_seq (s_region (s_M 1 rfl rfl (s_do rfl rfl rfl (d_eql_pn rfl (by kernel_rfl) rfl rfl) (s_M 1 rfl rfl (s_C rfl rfl rfl rfl rfl (fun w => Tryz.call8 _ w) (known_c ) H rfl ?_)))))))); rintro _ w _ ⟨rfl, rfl⟩ H'; have H := H'.l2; clear H'; refine s_M 2 rfl rfl (s_end (k_false rfl (k_skip (k_seq (s_region (s_go rfl rfl rfl (n_alloc (P := Tryz.prog) H rfl (zs := [.bool false, .bool false, .bool false, .bool false, .bool false, .bool false, .bool false, .bool false, .bool false, .bool false, .bool false, .bool false, .bool false, .bool false, .bool false, .bool false]) (by kernel_rfl)) ?_)))))); rintro _ w ⟨b1, rfl, H'⟩; have H := H'.l3; clear H'; refine s_end (k_seq (k_seq (s_region (s_M 1 rfl rfl (s_end (k_block ?_)))))); refine c_loop (σ := Nat × Dsk × StG × (Nat → Bool)) (fun ⟨i, D, G, la⟩ => [(14, .int .i64 (i : Int)), (0, .slice ao qs.length oc), (1, .int .i64 s), (2, .int .i64 l), (3, .int .i64 cut), (4, pkv), (11, .pointer (some ⟨pd, 0, none⟩)), (12, .pointer (some ⟨ps, 0, none⟩)), (13, .pointer (some ⟨b1, 0, none⟩))])
   (fun ⟨i, D, G, la⟩ w => Sep z (blk b1 (laL la) 69 :: stoA ps pd D G none :: A :: R) w ∧ (i ≤ qs.length ∧ Fine D G (3 + 2 * i) ∧ D.n = 400 ∧ G.x.pages = 16 ∧ laP la G.M)) (fun ⟨i, D, G, la⟩ => qs.length - i) ⟨0, D0, g07, (fun _ => false)⟩
   (fun _ hF => (hF.cons (hF.cons (hF.cons (hF.cons (hF.cons (hF.cons (hF.cons (hF.cons (hF.cons hF.nil 13 _ _ rfl rfl) 12 _ _ rfl rfl) 11 _ _ rfl rfl) 4 _ _ rfl rfl) 3 _ _ rfl rfl) 2 _ _ rfl rfl) 1 _ _ rfl rfl) 0 _ _ rfl rfl) 14 _ _ rfl (by go_num))) ⟨H, by omega, fi0, hn0, rfl, fun n _ => .inl ⟨rfl, rfl⟩⟩ ?_
 clear H; rintro ⟨i, D, G, la⟩ w ⟨H', hI⟩; dsimp only at hI H' ⊢
 have H := H'.l3; clear H'; obtain ⟨hi, fi, hDn, hGp, hla⟩ := hI; refine k_seq (k_seq (s_region (s_M 2 rfl rfl (s_do rfl rfl rfl (d_len rfl (z := 1) (by kernel_rfl) rfl) (s_M 1 rfl rfl (s_end (k_dec rfl (fun h1 => ?_) (fun h1 => ?_))))))))
 ·refine k_skip (k_seq (k_block (k_seq (s_region ?_)))); obtain ⟨q_, hq_⟩ : ∃ x, qs[i]? = some x := ⟨_, List.getElem?_eq_getElem (by omega)⟩; have hat := (H.rd 2 rfl (fun h q => (hA h q).1)).at (show (qs.map (Value.int .i64))[i]? = some (.int .i64 q_) by rw [List.getElem?_map, hq_]; rfl)
  refine s_M 2 rfl rfl (s_do rfl rfl rfl (d_indexE rfl (z := 1) (j := i) (r := i) (by kernel_rfl) rfl rfl rfl (by omega) hat (by omega)) (s_do rfl rfl rfl (d_loadE rfl rfl (by kernel_rfl) (here hat)) (s_do rfl rfl rfl (d_rem rfl rfl rfl (by decide)) ?_))); have hm1 := Int.tmod_lt_of_pos q_ (by decide : (0 : Int) < 16)
  have hm2 : -16 < q_.tmod 16 := by have := Int.lt_tmod_of_pos q_ (by decide : (0 : Int) < 16); omega
  refine s_M 1 rfl rfl (s_end (k_seq (k_seq (s_region (s_M 2 rfl rfl (s_end (k_dec rfl (fun h2 => ?_) (fun h2 => ?_))))))))
  ·refine s_region (s_M 1 rfl rfl (s_do rfl rfl rfl (d_add64 rfl rfl rfl (r := (q_.tmod 16) + 16) (by omega) (by omega)) (s_M 1 rfl rfl (s_end (k_seq ?_))))); obtain ⟨n_, hn_⟩ : ∃ n_ : Nat, (n_ : Int) = ((q_.tmod 16) + 16) := ⟨(((q_.tmod 16) + 16)).toNat, by omega⟩; have hn16 : n_ < 16 := by omega
   refine k_updA 15 (u := .int .i64 ((q_.tmod 16) + 16)) (v := .int .i64 (n_ : Int)) rfl (congrArg (Value.int .i64) hn_.symm) (s_region (s_M 1 rfl rfl (s_C rfl rfl rfl rfl rfl (fun w => Tryz.call18 _ w) (begin_s _ _ _ _) H.f1 rfl ?_))); rintro _ w _ ⟨rfl, rfl⟩ H'; have H := H'.l3; clear H'; refine s_M 1 rfl rfl (s_end (k_seq (s_region (s_M 3 rfl rfl (s_do rfl rfl rfl (d_add64 rfl rfl rfl (r := (n_ : Int) + 1) (by omega) (by omega)) (s_C rfl rfl rfl rfl rfl (fun w => Tryz.call20 _ w) (page7_c _) H rfl ?_)))))); rintro _ w _ ⟨pb2, rfl, rfl⟩ H'; have H := H'.l4; clear H'; refine s_C rfl rfl rfl rfl rfl (fun w => Tryz.call19 _ w) (write_s ps pd D G _ _ n_ (by omega) (pgF 5 ((n_ : Int) + 1)) (pgF_ok _ (by omega)) _ _ (fun h q => blk_rd0 q (by rw [List.length_map]; exact pgF_len _ _))) H.f1 rfl ?_; rintro _ w _ (⟨hbad, rfl, rfl⟩ | ⟨_, rfl, rfl⟩) H'
   ·(exfalso; have hbk := hbad.2; omega)
   ·have H := H'.l4; clear H'; refine s_M 1 rfl rfl (s_end (k_seq (s_region (s_M 1 rfl rfl (s_C rfl rfl rfl rfl rfl (fun w => Tryz.call21 _ w) (commit_s _ _ _ _ _ _ (3 + 2 * i) fi (by omega)) H rfl ?_))))); rintro _ w _ ⟨D2, G2, fi2, hn2, ⟨hM2, hns2⟩, hx2, rfl, rfl⟩ H'; have H := H'.l4; clear H'; refine s_M 1 rfl rfl (s_end (k_seq (k_seq (s_region (s_M 2 rfl rfl (k_updA 66 (u := .bool (decide ((0 : Int) ≠ 0))) (v := .bool false) rfl (congrArg Value.bool (by decide)) (s_M 3 rfl rfl (k_updA 69 (u := .bool (decide ((0 : Int) ≠ 0))) (v := .bool false) rfl (congrArg Value.bool (by decide)) (s_M 4 rfl rfl (k_updA 73 (u := .bool (decide ((0 : Int) ≠ 0))) (v := .bool false) rfl (congrArg Value.bool (by decide)) (s_M 1 rfl rfl (s_end (k_false rfl ?_))))))))))))); refine k_skip (s_region (s_M 1 rfl rfl (s_do rfl rfl rfl (d_indexA (l := 16) rfl (z := 1) (j := n_) (r := n_) (by kernel_rfl) rfl rfl rfl (by omega) (by omega)) (s_put rfl rfl (n_store 2 H rfl rfl rfl rfl (vs := [.bool true]) rfl (by simp [u8, u32, Value.oneCell']) (by kernel_rfl) (by rw [laL_len]; simp; omega) (out := (laL (upf la n_ true))) (laL_set _ _ (by omega))) ?_)))); rintro w H'; have H := H'.l4; clear H'; refine s_end (s_region (s_M 1 rfl rfl (s_do rfl rfl rfl (d_add64 rfl rfl rfl (r := (i : Int) + 1) (by omega) (by omega)) (s_M 1 rfl rfl (s_end ?_))))); replace H := H.f1.d.f2.f1.f2; intro _ hF; refine ⟨⟨i + 1, D2, G2, (upf la n_ true)⟩, (hF.cons (hF.cons (hF.cons (hF.cons (hF.cons (hF.cons (hF.cons (hF.cons (hF.cons hF.nil 13 _ _ rfl rfl) 12 _ _ rfl rfl) 11 _ _ rfl rfl) 4 _ _ rfl rfl) 3 _ _ rfl rfl) 2 _ _ rfl rfl) 1 _ _ rfl rfl) 0 _ _ rfl rfl) 14 _ _ rfl (by go_num)), ⟨H, ?_⟩, ?_⟩
    ·refine ⟨by omega, fi2.le (by omega), hn2.trans hDn, by rcases hx2 with e | e <;> dsimp only <;> rw [e] <;> exact hGp, ?_⟩; dsimp only; rw [hM2]; exact laP_set hla _ _
    ·(dsimp only; omega)
  ·refine k_skip (k_seq ?_); obtain ⟨n_, hn_⟩ : ∃ n_ : Nat, (n_ : Int) = (q_.tmod 16) := ⟨((q_.tmod 16)).toNat, by omega⟩; have hn16 : n_ < 16 := by omega
   refine k_updA 15 (u := .int .i64 (q_.tmod 16)) (v := .int .i64 (n_ : Int)) rfl (congrArg (Value.int .i64) hn_.symm) (s_region (s_M 1 rfl rfl (s_C rfl rfl rfl rfl rfl (fun w => Tryz.call18 _ w) (begin_s _ _ _ _) H.f1 rfl ?_))); rintro _ w _ ⟨rfl, rfl⟩ H'; have H := H'.l3; clear H'; refine s_M 1 rfl rfl (s_end (k_seq (s_region (s_M 3 rfl rfl (s_do rfl rfl rfl (d_add64 rfl rfl rfl (r := (n_ : Int) + 1) (by omega) (by omega)) (s_C rfl rfl rfl rfl rfl (fun w => Tryz.call20 _ w) (page7_c _) H rfl ?_)))))); rintro _ w _ ⟨pb3, rfl, rfl⟩ H'; have H := H'.l4; clear H'; refine s_C rfl rfl rfl rfl rfl (fun w => Tryz.call19 _ w) (write_s ps pd D G _ _ n_ (by omega) (pgF 5 ((n_ : Int) + 1)) (pgF_ok _ (by omega)) _ _ (fun h q => blk_rd0 q (by rw [List.length_map]; exact pgF_len _ _))) H.f1 rfl ?_; rintro _ w _ (⟨hbad, rfl, rfl⟩ | ⟨_, rfl, rfl⟩) H'
   ·(exfalso; have hbk := hbad.2; omega)
   ·have H := H'.l4; clear H'; refine s_M 1 rfl rfl (s_end (k_seq (s_region (s_M 1 rfl rfl (s_C rfl rfl rfl rfl rfl (fun w => Tryz.call21 _ w) (commit_s _ _ _ _ _ _ (3 + 2 * i) fi (by omega)) H rfl ?_))))); rintro _ w _ ⟨D2, G2, fi2, hn2, ⟨hM2, hns2⟩, hx2, rfl, rfl⟩ H'; have H := H'.l4; clear H'; refine s_M 1 rfl rfl (s_end (k_seq (k_seq (s_region (s_M 2 rfl rfl (k_updA 66 (u := .bool (decide ((0 : Int) ≠ 0))) (v := .bool false) rfl (congrArg Value.bool (by decide)) (s_M 3 rfl rfl (k_updA 69 (u := .bool (decide ((0 : Int) ≠ 0))) (v := .bool false) rfl (congrArg Value.bool (by decide)) (s_M 4 rfl rfl (k_updA 73 (u := .bool (decide ((0 : Int) ≠ 0))) (v := .bool false) rfl (congrArg Value.bool (by decide)) (s_M 1 rfl rfl (s_end (k_false rfl ?_))))))))))))); refine k_skip (s_region (s_M 1 rfl rfl (s_do rfl rfl rfl (d_indexA (l := 16) rfl (z := 1) (j := n_) (r := n_) (by kernel_rfl) rfl rfl rfl (by omega) (by omega)) (s_put rfl rfl (n_store 2 H rfl rfl rfl rfl (vs := [.bool true]) rfl (by simp [u8, u32, Value.oneCell']) (by kernel_rfl) (by rw [laL_len]; simp; omega) (out := (laL (upf la n_ true))) (laL_set _ _ (by omega))) ?_)))); rintro w H'; have H := H'.l4; clear H'; refine s_end (s_region (s_M 1 rfl rfl (s_do rfl rfl rfl (d_add64 rfl rfl rfl (r := (i : Int) + 1) (by omega) (by omega)) (s_M 1 rfl rfl (s_end ?_))))); replace H := H.f1.d.f2.f1.f2; intro _ hF; refine ⟨⟨i + 1, D2, G2, (upf la n_ true)⟩, (hF.cons (hF.cons (hF.cons (hF.cons (hF.cons (hF.cons (hF.cons (hF.cons (hF.cons hF.nil 13 _ _ rfl rfl) 12 _ _ rfl rfl) 11 _ _ rfl rfl) 4 _ _ rfl rfl) 3 _ _ rfl rfl) 2 _ _ rfl rfl) 1 _ _ rfl rfl) 0 _ _ rfl rfl) 14 _ _ rfl (by go_num)), ⟨H, ?_⟩, ?_⟩
    ·refine ⟨by omega, fi2.le (by omega), hn2.trans hDn, by rcases hx2 with e | e <;> dsimp only <;> rw [e] <;> exact hGp, ?_⟩; dsimp only; rw [hM2]; exact laP_set hla _ _
    ·(dsimp only; omega)
 ·refine k_exit (k_here (k_seq (k_seq (s_region (s_M 1 rfl rfl (s_C rfl rfl rfl rfl rfl (fun w => Tryz.call23 _ w) (sync_s _ _ _ _ _ fi) H.f1 rfl ?_)))))); rintro _ w _ ⟨rfl, fiS0, rfl⟩ H'; have H := H'.l3; clear H'; obtain ⟨GS, hGS⟩ : ∃ G2, G2 = ({ G with sure := G.rs.length } : StG) := ⟨_, rfl⟩; rw [← hGS] at H fiS0; have hsS : GS.sure = GS.rs.length := by rw [hGS]
  have hMS : GS.M = G.M := by rw [hGS]; rfl
  have hpS : GS.x.pages = 16 := by rw [hGS]; exact hGp
  clear hGS; obtain ⟨DS, hDS⟩ : ∃ D2, D2 = D.fl := ⟨_, rfl⟩; have hnS : DS.n = 400 := by rw [hDS]; exact hDn
  rw [← hDS] at H fiS0; have fiS := fiS0
  clear hDS; have H' : Sep z (stoA ps pd DS GS none :: blk b1 (laL la) 69 :: A :: R) w := H
  clear H; have H := H'.l3; clear H'; refine s_M 1 rfl rfl (k_updA 79 (u := .bool (decide ((0 : Int) ≠ 0))) (v := .bool false) rfl (congrArg Value.bool (by decide)) (s_end (k_false rfl (k_skip (k_seq (s_region (s_M 1 rfl rfl (s_C rfl rfl rfl rfl rfl (fun w => Tryz.call11 _ w) (new_m _) H rfl ?_)))))))); rintro _ w _ ⟨pm, rfl, rfl⟩ H'; have H := H'.l4; clear H'; refine s_M 1 rfl rfl (s_end (k_seq (k_seq (s_region (s_M 1 rfl rfl (s_do rfl rfl rfl (d_eql_pn rfl (by kernel_rfl) rfl rfl) (s_end (k_false rfl (k_skip (k_seq (s_region (s_M 1 rfl rfl (s_C rfl rfl rfl rfl rfl (fun w => Tryz.call13 _ w) (super_s ps pd DS GS none) H.f1 rfl ?_))))))))))))); rintro _ w _ ⟨rfl, rfl⟩ H'; have H := H'.l4; clear H'; refine s_go rfl rfl rfl (n_alloc (P := Tryz.prog) H rfl (zs := [.int .i64 0, .int .i64 0, .int .i64 0, .int .i64 0, .int .i64 0, .int .i64 0, .int .i64 0]) (by kernel_rfl)) ?_; rintro _ w ⟨b4, rfl, H'⟩; have H := H'.l5; clear H'; refine s_put rfl rfl (n_store 0 H rfl rfl rfl rfl (vs := [.int .i64 GS.x.gen, .int .i64 GS.x.epoch, .int .i64 GS.x.pages, .int .i64 GS.x.start, .int .i64 GS.x.len, .int .i64 GS.x.head, .int .i64 GS.x.seq]) rfl (by simp [u8, u32, Value.oneCell']) (by kernel_rfl) (by simp) (out := [.int .i64 GS.x.gen, .int .i64 GS.x.epoch, .int .i64 GS.x.pages, .int .i64 GS.x.start, .int .i64 GS.x.len, .int .i64 GS.x.head, .int .i64 GS.x.seq]) rfl) ?_; rintro w H'; have H := H'.l5; clear H'; refine s_end (k_seq (s_region (s_M 3 rfl rfl (s_C rfl rfl rfl rfl rfl (fun w => Tryz.call15 _ w) (ask_m _ _ _ _ DS GS _ fiS.bnd (by omega) s l) H.f1.f2 rfl ?_))))
  rintro _ w _ (⟨c7_, hcn7, rfl, rfl⟩ | ⟨hok7, rfl, rfl⟩) H'
  ·have H := H'.l5; clear H'; refine s_M 1 rfl rfl (k_updA 90 (u := .bool (decide ((c7_ : Int) = 0))) (v := .bool false) rfl (congrArg Value.bool (decide_eq_false hcn7)) (s_M 1 rfl rfl (s_end (k_seq (s_region (s_M 2 rfl rfl (s_C rfl rfl rfl rfl rfl (fun w => Tryz.call24 _ w) (cut_s _ _ _ _ _ fiS.bnd _) H.f1 rfl ?_))))))); rintro _ w _ ⟨cc_, D7, hB7, hMv7, rfl, rfl⟩ H'; have H := H'.l5; clear H'; refine s_end (k_seq (s_region (s_M 1 rfl rfl (s_C rfl rfl rfl rfl rfl (fun w => Tryz.call16 _ w) (step0_m _ _) H.f1 rfl ?_)))); rintro _ w _ ⟨rfl, rfl⟩ H'; have H := H'.l5; clear H'; refine s_end (k_seq (s_region (s_M 1 rfl rfl (s_C rfl rfl rfl rfl rfl (fun w => Tryz.call16 _ w) (step0_m _ _) H rfl ?_)))); rintro _ w _ ⟨rfl, rfl⟩ H'; have H := H'.l5; clear H'; refine s_end (k_seq (s_region (s_M 1 rfl rfl (s_C rfl rfl rfl rfl rfl (fun w => Tryz.call16 _ w) (step0_m _ _) H rfl ?_)))); rintro _ w _ ⟨rfl, rfl⟩ H'; have H := H'.l5; clear H'; refine s_end (k_seq (s_region (s_M 2 rfl rfl ?_))); have hMt := hMv7
   have hst : GS.x.start = GS.x.start ∧ GS.x.len = GS.x.len := ⟨rfl, rfl⟩
   have hBt := hB7
   refine s_C rfl rfl rfl rfl rfl (fun w => Tryz.call25 _ w) (crash_g _ _ _ _ _ _ hBt (by omega) _ pk _ (fun h q => (hA h q).2)) H.f4.f2 rfl ?_; rintro _ w _ ⟨Dc, hclc, hnc, hOc, rfl, rfl⟩ H'; have H := H'.l5; clear H'; refine s_end (k_seq (s_region (s_M 1 rfl rfl (s_C rfl rfl rfl rfl rfl (fun w => Tryz.call26 _ w) (open_s _ _ _ _ _ _ hOc hclc ⟨hBt.gen, hBt.epoch⟩ (by omega)) H rfl ?_)))); rintro _ w _ ⟨ps2, D6, got6, hgd6, fi6, hn6, rfl, rfl⟩ H'; have H := H'.l5; clear H'; have hgs := hMt.sure hsS
   have hgot : got6 = GS.rs := by have h1 := hgd6.1; have h2 := hgd6.2.1; have h3 := hgd6.2.2; (try dsimp only at h1 h2 h3); rw [h3]; exact List.take_of_length_le (by omega)
   subst hgot; obtain ⟨G6, hG6⟩ : ∃ G6, G6 = opG GS.x (pgMap (ov GS.rs) GS.B) := ⟨_, rfl⟩; rw [← hG6] at H fi6; have hM6 : G6.M = G.M := by rw [hG6, opG_M, ← hMS, ← hMt.M]; rfl
   have hx6 : G6.x.start = GS.x.start ∧ G6.x.len = GS.x.len := by rw [hG6]; exact ⟨rfl, rfl⟩
   have hp6 : G6.x.pages = 16 := by rw [hG6]; exact hMt.pages.trans hpS
   rw [← hM6] at hla; clear hG6; have H' : Sep z (stoA ps2 pd D6 G6 none :: A :: moA pm ps none :: blk b4 [.int .i64 GS.x.gen, .int .i64 GS.x.epoch, .int .i64 GS.x.pages, .int .i64 GS.x.start, .int .i64 GS.x.len, .int .i64 GS.x.head, .int .i64 GS.x.seq] 49 :: blk b1 (laL la) 69 :: R) w := H
   clear H; have H := H'.l5; clear H'; refine s_M 5 rfl rfl (s_end (k_seq (k_seq (s_region (s_M 2 rfl rfl (k_updA 109 (u := .bool (decide ((0 : Int) ≠ 0))) (v := .bool false) rfl (congrArg Value.bool (by decide)) (s_M 2 rfl rfl (s_do rfl rfl rfl (d_eql_pn rfl (by kernel_rfl) rfl rfl) (s_M 1 rfl rfl (s_end (k_false rfl (k_skip (k_seq ?_))))))))))))); refine s_region (s_M 1 rfl rfl (s_C rfl rfl rfl rfl rfl (fun w => Tryz.call13 _ w) (super_s ps2 pd D6 G6 none) H rfl ?_)); rintro _ w _ ⟨rfl, rfl⟩ H'; have H := H'.l5; clear H'; refine s_go rfl rfl rfl (n_alloc (P := Tryz.prog) H rfl (zs := [.int .i64 0, .int .i64 0, .int .i64 0, .int .i64 0, .int .i64 0, .int .i64 0, .int .i64 0]) (by kernel_rfl)) ?_; rintro _ w ⟨b5, rfl, H'⟩; have H := H'.l6; clear H'; refine s_put rfl rfl (n_store 0 H rfl rfl rfl rfl (vs := [.int .i64 G6.x.gen, .int .i64 G6.x.epoch, .int .i64 G6.x.pages, .int .i64 G6.x.start, .int .i64 G6.x.len, .int .i64 G6.x.head, .int .i64 G6.x.seq]) rfl (by simp [u8, u32, Value.oneCell']) (by kernel_rfl) (by simp) (out := [.int .i64 G6.x.gen, .int .i64 G6.x.epoch, .int .i64 G6.x.pages, .int .i64 G6.x.start, .int .i64 G6.x.len, .int .i64 G6.x.head, .int .i64 G6.x.seq]) rfl) ?_; rintro w H'; have H := H'.l6; clear H'; refine s_end (k_seq (s_region (s_L 6 [3, 0, 3, 1] (mm1 (H.blk 0 rfl) (mm1 (H.blk 4 rfl) mm0)) rfl (by kernel_rfl) rfl (s_part 121 rfl (fun h3 => ?_) (fun h3 => ?_)))))
   ·refine s_L 7 [4, 0, 4, 1] (mm1 (H.blk 0 rfl) (mm1 (H.blk 4 rfl) mm0)) rfl (by kernel_rfl) rfl (s_end (k_seq (s_region (s_M 14 rfl rfl (s_end (k_seq (k_seq (s_region (s_M 1 rfl rfl (s_do rfl rfl rfl (d_not_dec rfl rfl) (s_M 1 rfl rfl (s_part 143 rfl (fun h4 => ?_) (fun h4 => ?_)))))))))))))
    ·(exfalso; omega)
    ·refine s_M 3 rfl rfl (s_end (k_false rfl (k_skip (k_seq (k_seq (s_region (s_M 1 rfl rfl (s_end (k_block ?_))))))))); refine c_loop (σ := Nat) (fun n => [(27, .int .i64 (n : Int)), (13, .pointer (some ⟨b1, 0, none⟩)), (22, .pointer (some ⟨ps2, 0, none⟩))])
       (fun n w => Sep z (blk b5 [.int .i64 G6.x.gen, .int .i64 G6.x.epoch, .int .i64 G6.x.pages, .int .i64 G6.x.start, .int .i64 G6.x.len, .int .i64 G6.x.head, .int .i64 G6.x.seq] 49 :: stoA ps2 pd D6 G6 none :: A :: moA pm ps none :: blk b4 [.int .i64 GS.x.gen, .int .i64 GS.x.epoch, .int .i64 GS.x.pages, .int .i64 GS.x.start, .int .i64 GS.x.len, .int .i64 GS.x.head, .int .i64 GS.x.seq] 49 :: blk b1 (laL la) 69 :: R) w ∧ (n ≤ 16)) (fun n => 16 - n) 0
       (fun _ hF => (hF.cons (hF.cons (hF.cons hF.nil 22 _ _ rfl rfl) 13 _ _ rfl rfl) 27 _ _ rfl (by go_num))) ⟨H, by omega⟩ ?_
     clear H; rintro n w ⟨H', hI⟩; have H := H'.l6; clear H'; have hn_16 := hI; clear hI
     refine k_seq (k_seq (s_region (s_M 2 rfl rfl (s_end (k_dec rfl (fun h5 => ?_) (fun h5 => ?_))))))
     ·refine k_skip (k_seq (k_block (k_seq (s_region (s_M 2 rfl rfl (s_C rfl rfl rfl rfl rfl (fun w => Tryz.call22 _ w) (read_p ps2 pd D6 G6 n (by omega) fi6.clean.f1 (la n = false) ((n : Int) + 1) (hla n (by omega))) H.f1 rfl ?_)))))); rintro _ w _ (⟨hc_, rfl, rfl⟩ | ⟨hc_, g5, cap5, rest5, hcap5, rfl, rfl⟩) H'
      ·have H := H'.l6; clear H'; refine s_M 3 rfl rfl (s_go rfl rfl rfl (n_alloc (P := Tryz.prog) H rfl (zs := [.int .i64 0, .slice none 0 0]) (by kernel_rfl)) ?_); rintro _ w ⟨b6, rfl, H'⟩; have H := H'.l7; clear H'; refine s_put rfl rfl (n_store 0 H rfl rfl rfl rfl (vs := [.int .i64 0, .slice none 0 0]) rfl (by simp [u8, u32, Value.oneCell']) (by kernel_rfl) (by simp) (out := [.int .i64 0, .slice none 0 0]) rfl) ?_; rintro w H'; have H := H'.l7; clear H'; refine s_M 1 rfl rfl (s_end (k_seq (s_region (s_M 2 rfl rfl (k_updA 158 (u := .bool (decide ((0 : Int) ≠ 0))) (v := .bool false) rfl (congrArg Value.bool (by decide)) (s_M 2 rfl rfl (s_do rfl rfl rfl (d_indexA (l := 16) rfl (z := 1) (j := n) (r := n) (by kernel_rfl) rfl rfl rfl (by omega) (by omega)) (s_do rfl rfl rfl (d_load rfl rfl (by kernel_rfl) (here (H.cel 6 rfl n (laL_get _ (by omega))))) (k_updA 162 (u := .bool (la n)) (v := .bool false) rfl (congrArg Value.bool hc_) (s_M 19 rfl rfl (s_do rfl rfl rfl (d_indexA (l := 16) rfl (z := 1) (j := n) (r := n) (by kernel_rfl) rfl rfl rfl (by omega) (by omega)) (s_do rfl rfl rfl (d_load rfl rfl (by kernel_rfl) (here (H.cel 6 rfl n (laL_get _ (by omega))))) (k_updA 183 (u := .bool (la n)) (v := .bool false) rfl (congrArg Value.bool hc_) ?_))))))))))))); refine s_L 5 [0, 0] (mm1 (H.blk 0 rfl) mm0) rfl (by kernel_rfl) rfl (k_updA 188 (u := .bool (decide ((0 : Int) ≠ 0))) (v := .bool false) rfl (congrArg Value.bool (by decide)) (s_M 2 rfl rfl (s_end (k_false rfl (k_skip (s_region (s_M 1 rfl rfl (s_do rfl rfl rfl (d_add64 rfl rfl rfl (r := (n : Int) + 1) (by omega) (by omega)) (s_M 1 rfl rfl (s_end ?_))))))))))
       replace H := H.d.f5.f5.f5.f5.f4.f5; intro _ hF; refine ⟨(n + 1), (hF.cons (hF.cons (hF.cons hF.nil 22 _ _ rfl rfl) 13 _ _ rfl rfl) 27 _ _ rfl (by go_num)), ⟨H, ?_⟩, ?_⟩
       ·omega
       ·omega
      ·have H := H'.l7; clear H'; refine s_M 3 rfl rfl (s_go rfl rfl rfl (n_alloc (P := Tryz.prog) H rfl (zs := [.int .i64 0, .slice none 0 0]) (by kernel_rfl)) ?_); rintro _ w ⟨b7, rfl, H'⟩; have H := H'.l8; clear H'; refine s_put rfl rfl (n_store 0 H rfl rfl rfl rfl (vs := [.int .i64 5, .slice (some ⟨g5, 0, none⟩) 240 cap5]) rfl (by simp [u8, u32, Value.oneCell']) (by kernel_rfl) (by simp) (out := [.int .i64 5, .slice (some ⟨g5, 0, none⟩) 240 cap5]) rfl) ?_; rintro w H'; have H := H'.l8; clear H'; refine s_M 1 rfl rfl (s_end (k_seq (s_region (s_M 2 rfl rfl (k_updA 158 (u := .bool (decide ((0 : Int) ≠ 0))) (v := .bool false) rfl (congrArg Value.bool (by decide)) (s_M 2 rfl rfl (s_do rfl rfl rfl (d_indexA (l := 16) rfl (z := 1) (j := n) (r := n) (by kernel_rfl) rfl rfl rfl (by omega) (by omega)) (s_do rfl rfl rfl (d_load rfl rfl (by kernel_rfl) (here (H.cel 7 rfl n (laL_get _ (by omega))))) (k_updA 162 (u := .bool (la n)) (v := .bool true) rfl (congrArg Value.bool (by simpa using hc_)) (s_L 3 [1, 0] (mm1 (H.blk 0 rfl) mm0) rfl (by kernel_rfl) rfl (s_do rfl rfl rfl (d_len rfl (z := 1) (by kernel_rfl) rfl) (s_M 1 rfl rfl (k_updA 167 (u := .bool (decide ((240 : Int) ≠ 240))) (v := .bool false) rfl (congrArg Value.bool (by decide)) ?_))))))))))))); refine s_L 3 [1, 0] (mm1 (H.blk 0 rfl) mm0) rfl (by kernel_rfl) rfl (s_do rfl rfl rfl (d_index rfl (z := 1) (j := 0) (r := 0) (by kernel_rfl) rfl rfl rfl (by omega) (by omega)) (s_do rfl rfl rfl (d_load rfl rfl (by kernel_rfl) (here (H.cel 1 rfl 0 (pgF_get _ _ (by omega))))) (s_M 1 rfl rfl (s_do rfl rfl rfl (d_add64 rfl rfl rfl (r := (n : Int) + 1) (by omega) (by omega)) (s_do rfl rfl rfl (d_to8 rfl (by kernel_rfl) rfl) (s_do rfl rfl rfl (d_neq8 (k := .u8) rfl (by kernel_rfl) rfl rfl) (k_updA 176 (u := .bool (decide (byt ((n : Int) + 1) ≠ byt ((n : Int) + 1)))) (v := .bool false) rfl (congrArg Value.bool (by simp)) (s_M 5 rfl rfl (s_do rfl rfl rfl (d_indexA (l := 16) rfl (z := 1) (j := n) (r := n) (by kernel_rfl) rfl rfl rfl (by omega) (by omega)) (s_do rfl rfl rfl (d_load rfl rfl (by kernel_rfl) (here (H.cel 7 rfl n (laL_get _ (by omega))))) (k_updA 183 (u := .bool (la n)) (v := .bool true) rfl (congrArg Value.bool (by simpa using hc_)) (s_M 7 rfl rfl (s_end ?_)))))))))))))
       refine k_false rfl (k_skip (s_region (s_M 1 rfl rfl (s_do rfl rfl rfl (d_add64 rfl rfl rfl (r := (n : Int) + 1) (by omega) (by omega)) (s_M 1 rfl rfl (s_end ?_)))))); replace H := H.f1.d.d.f5.f5.f5.f5.f4.f5; intro _ hF; refine ⟨(n + 1), (hF.cons (hF.cons (hF.cons hF.nil 22 _ _ rfl rfl) 13 _ _ rfl rfl) 27 _ _ rfl (by go_num)), ⟨H, ?_⟩, ?_⟩
       ·omega
       ·omega
     ·refine k_exit (k_here (k_seq (s_region (s_M 1 rfl rfl (s_end (k_ret (doneL rfl [.bool true] ⟨rfl, trivial⟩ (v := .bool true) rfl ?_))))))); exact ⟨[A], ⟨rfl, rfl⟩, H.perm 6 [2] rfl rfl⟩
   ·(exfalso; omega)
  ·have H := H'.l5; clear H'; refine s_M 1 rfl rfl (k_updA 90 (u := .bool (decide ((0 : Int) = 0))) (v := .bool true) rfl (congrArg Value.bool (by decide)) (s_M 1 rfl rfl (s_end (k_seq (s_region (s_M 2 rfl rfl (s_C rfl rfl rfl rfl rfl (fun w => Tryz.call24 _ w) (cut_s _ _ _ _ _ fiS.bnd _) H.f1 rfl ?_))))))); rintro _ w _ ⟨cc_, D7, hB7, hMv7, rfl, rfl⟩ H'; have H := H'.l5; clear H'; refine s_end (k_seq (s_region (s_M 1 rfl rfl (s_C rfl rfl rfl rfl rfl (fun w => Tryz.call16 _ w) (step_w _ _ _ (some (s, l)) s l (fun a b e => by cases e; exact ⟨rfl, rfl⟩) _ _ _ hB7 (by omega)) H.f1 rfl ?_)))); rintro _ w _ ⟨b8_, c8_, D8, G8, t8, hB8, hMv8, hs8, hW8, rfl, rfl⟩ H'; have H := H'.l5; clear H'; refine s_end (k_seq (s_region (s_M 1 rfl rfl (s_C rfl rfl rfl rfl rfl (fun w => Tryz.call16 _ w) (step_w _ _ _ t8 s l hW8 _ _ _ hB8 (by omega)) H rfl ?_)))); rintro _ w _ ⟨b9_, c9_, D9, G9, t9, hB9, hMv9, hs9, hW9, rfl, rfl⟩ H'; have H := H'.l5; clear H'; refine s_end (k_seq (s_region (s_M 1 rfl rfl (s_C rfl rfl rfl rfl rfl (fun w => Tryz.call16 _ w) (step_w _ _ _ t9 s l hW9 _ _ _ hB9 (by omega)) H rfl ?_)))); rintro _ w _ ⟨b10_, c10_, D10, G10, t10, hB10, hMv10, hs10, hW10, rfl, rfl⟩ H'; have H := H'.l5; clear H'; refine s_end (k_seq (s_region (s_M 2 rfl rfl ?_))); have hMt := ((hMv7.trans hMv8).trans hMv9).trans hMv10
   have hst : (G10.x.start = GS.x.start ∧ G10.x.len = GS.x.len) ∨ (G10.x.start = s ∧ G10.x.len = l) := by omega
   have hBt := hB10
   refine s_C rfl rfl rfl rfl rfl (fun w => Tryz.call25 _ w) (crash_g _ _ _ _ _ _ hBt (by omega) _ pk _ (fun h q => (hA h q).2)) H.f4.f2 rfl ?_; rintro _ w _ ⟨Dc, hclc, hnc, hOc, rfl, rfl⟩ H'; have H := H'.l5; clear H'; refine s_end (k_seq (s_region (s_M 1 rfl rfl (s_C rfl rfl rfl rfl rfl (fun w => Tryz.call26 _ w) (open_s _ _ _ _ _ _ hOc hclc ⟨hBt.gen, hBt.epoch⟩ (by omega)) H rfl ?_)))); rintro _ w _ ⟨ps2, D6, got6, hgd6, fi6, hn6, rfl, rfl⟩ H'; have H := H'.l5; clear H'; have hgs := hMt.sure hsS
   have hgot : got6 = G10.rs := by have h1 := hgd6.1; have h2 := hgd6.2.1; have h3 := hgd6.2.2; (try dsimp only at h1 h2 h3); rw [h3]; exact List.take_of_length_le (by omega)
   subst hgot; obtain ⟨G6, hG6⟩ : ∃ G6, G6 = opG G10.x (pgMap (ov G10.rs) G10.B) := ⟨_, rfl⟩; rw [← hG6] at H fi6; have hM6 : G6.M = G.M := by rw [hG6, opG_M, ← hMS, ← hMt.M]; rfl
   have hx6 : G6.x.start = G10.x.start ∧ G6.x.len = G10.x.len := by rw [hG6]; exact ⟨rfl, rfl⟩
   have hp6 : G6.x.pages = 16 := by rw [hG6]; exact hMt.pages.trans hpS
   rw [← hM6] at hla; clear hG6; have H' : Sep z (stoA ps2 pd D6 G6 none :: A :: moA pm ps t10 :: blk b4 [.int .i64 GS.x.gen, .int .i64 GS.x.epoch, .int .i64 GS.x.pages, .int .i64 GS.x.start, .int .i64 GS.x.len, .int .i64 GS.x.head, .int .i64 GS.x.seq] 49 :: blk b1 (laL la) 69 :: R) w := H
   clear H; have H := H'.l5; clear H'; refine s_M 5 rfl rfl (s_end (k_seq (k_seq (s_region (s_M 2 rfl rfl (k_updA 109 (u := .bool (decide ((0 : Int) ≠ 0))) (v := .bool false) rfl (congrArg Value.bool (by decide)) (s_M 2 rfl rfl (s_do rfl rfl rfl (d_eql_pn rfl (by kernel_rfl) rfl rfl) (s_M 1 rfl rfl (s_end (k_false rfl (k_skip (k_seq ?_))))))))))))); refine s_region (s_M 1 rfl rfl (s_C rfl rfl rfl rfl rfl (fun w => Tryz.call13 _ w) (super_s ps2 pd D6 G6 none) H rfl ?_)); rintro _ w _ ⟨rfl, rfl⟩ H'; have H := H'.l5; clear H'; refine s_go rfl rfl rfl (n_alloc (P := Tryz.prog) H rfl (zs := [.int .i64 0, .int .i64 0, .int .i64 0, .int .i64 0, .int .i64 0, .int .i64 0, .int .i64 0]) (by kernel_rfl)) ?_; rintro _ w ⟨b8, rfl, H'⟩; have H := H'.l6; clear H'; refine s_put rfl rfl (n_store 0 H rfl rfl rfl rfl (vs := [.int .i64 G6.x.gen, .int .i64 G6.x.epoch, .int .i64 G6.x.pages, .int .i64 G6.x.start, .int .i64 G6.x.len, .int .i64 G6.x.head, .int .i64 G6.x.seq]) rfl (by simp [u8, u32, Value.oneCell']) (by kernel_rfl) (by simp) (out := [.int .i64 G6.x.gen, .int .i64 G6.x.epoch, .int .i64 G6.x.pages, .int .i64 G6.x.start, .int .i64 G6.x.len, .int .i64 G6.x.head, .int .i64 G6.x.seq]) rfl) ?_; rintro w H'; have H := H'.l6; clear H'; refine s_end (k_seq (s_region (s_L 6 [3, 0, 3, 1] (mm1 (H.blk 0 rfl) (mm1 (H.blk 4 rfl) mm0)) rfl (by kernel_rfl) rfl (s_part 121 rfl (fun h6 => ?_) (fun h6 => ?_)))))
   ·refine s_L 7 [4, 0, 4, 1] (mm1 (H.blk 0 rfl) (mm1 (H.blk 4 rfl) mm0)) rfl (by kernel_rfl) rfl (s_end (k_seq (s_region (s_L 8 [3, 0] (mm1 (H.blk 0 rfl) mm0) rfl (by kernel_rfl) rfl (s_part 135 rfl (fun h7 => ?_) (fun h7 => ?_))))))
    ·refine s_L 6 [4, 0] (mm1 (H.blk 0 rfl) mm0) rfl (by kernel_rfl) rfl (s_end (k_seq (k_seq (s_region (s_M 1 rfl rfl (s_do rfl rfl rfl (d_not_dec rfl rfl) (s_M 1 rfl rfl (s_part 143 rfl (fun h8 => ?_) (fun h8 => ?_)))))))))
     ·refine s_M 1 rfl rfl (s_do rfl rfl rfl (d_not_dec rfl rfl) (s_M 1 rfl rfl (s_end (k_dec rfl (fun h9 => ?_) (fun h9 => ?_)))))
      ·(exfalso; omega)
      ·refine k_skip (k_seq (k_seq (s_region (s_M 1 rfl rfl (s_end (k_block ?_)))))); refine c_loop (σ := Nat) (fun n => [(27, .int .i64 (n : Int)), (13, .pointer (some ⟨b1, 0, none⟩)), (22, .pointer (some ⟨ps2, 0, none⟩))])
         (fun n w => Sep z (blk b8 [.int .i64 G6.x.gen, .int .i64 G6.x.epoch, .int .i64 G6.x.pages, .int .i64 G6.x.start, .int .i64 G6.x.len, .int .i64 G6.x.head, .int .i64 G6.x.seq] 49 :: stoA ps2 pd D6 G6 none :: A :: moA pm ps t10 :: blk b4 [.int .i64 GS.x.gen, .int .i64 GS.x.epoch, .int .i64 GS.x.pages, .int .i64 GS.x.start, .int .i64 GS.x.len, .int .i64 GS.x.head, .int .i64 GS.x.seq] 49 :: blk b1 (laL la) 69 :: R) w ∧ (n ≤ 16)) (fun n => 16 - n) 0
         (fun _ hF => (hF.cons (hF.cons (hF.cons hF.nil 22 _ _ rfl rfl) 13 _ _ rfl rfl) 27 _ _ rfl (by go_num))) ⟨H, by omega⟩ ?_
       clear H; rintro n w ⟨H', hI⟩; have H := H'.l6; clear H'; have hn_16 := hI; clear hI
       refine k_seq (k_seq (s_region (s_M 2 rfl rfl (s_end (k_dec rfl (fun h10 => ?_) (fun h10 => ?_))))))
       ·refine k_skip (k_seq (k_block (k_seq (s_region (s_M 2 rfl rfl (s_C rfl rfl rfl rfl rfl (fun w => Tryz.call22 _ w) (read_p ps2 pd D6 G6 n (by omega) fi6.clean.f1 (la n = false) ((n : Int) + 1) (hla n (by omega))) H.f1 rfl ?_)))))); rintro _ w _ (⟨hc_, rfl, rfl⟩ | ⟨hc_, g5, cap5, rest5, hcap5, rfl, rfl⟩) H'
        ·have H := H'.l6; clear H'; refine s_M 3 rfl rfl (s_go rfl rfl rfl (n_alloc (P := Tryz.prog) H rfl (zs := [.int .i64 0, .slice none 0 0]) (by kernel_rfl)) ?_); rintro _ w ⟨b9, rfl, H'⟩; have H := H'.l7; clear H'; refine s_put rfl rfl (n_store 0 H rfl rfl rfl rfl (vs := [.int .i64 0, .slice none 0 0]) rfl (by simp [u8, u32, Value.oneCell']) (by kernel_rfl) (by simp) (out := [.int .i64 0, .slice none 0 0]) rfl) ?_; rintro w H'; have H := H'.l7; clear H'; refine s_M 1 rfl rfl (s_end (k_seq (s_region (s_M 2 rfl rfl (k_updA 158 (u := .bool (decide ((0 : Int) ≠ 0))) (v := .bool false) rfl (congrArg Value.bool (by decide)) (s_M 2 rfl rfl (s_do rfl rfl rfl (d_indexA (l := 16) rfl (z := 1) (j := n) (r := n) (by kernel_rfl) rfl rfl rfl (by omega) (by omega)) (s_do rfl rfl rfl (d_load rfl rfl (by kernel_rfl) (here (H.cel 6 rfl n (laL_get _ (by omega))))) (k_updA 162 (u := .bool (la n)) (v := .bool false) rfl (congrArg Value.bool hc_) (s_M 19 rfl rfl (s_do rfl rfl rfl (d_indexA (l := 16) rfl (z := 1) (j := n) (r := n) (by kernel_rfl) rfl rfl rfl (by omega) (by omega)) (s_do rfl rfl rfl (d_load rfl rfl (by kernel_rfl) (here (H.cel 6 rfl n (laL_get _ (by omega))))) (k_updA 183 (u := .bool (la n)) (v := .bool false) rfl (congrArg Value.bool hc_) ?_))))))))))))); refine s_L 5 [0, 0] (mm1 (H.blk 0 rfl) mm0) rfl (by kernel_rfl) rfl (k_updA 188 (u := .bool (decide ((0 : Int) ≠ 0))) (v := .bool false) rfl (congrArg Value.bool (by decide)) (s_M 2 rfl rfl (s_end (k_false rfl (k_skip (s_region (s_M 1 rfl rfl (s_do rfl rfl rfl (d_add64 rfl rfl rfl (r := (n : Int) + 1) (by omega) (by omega)) (s_M 1 rfl rfl (s_end ?_))))))))))
         replace H := H.d.f5.f5.f5.f5.f4.f5; intro _ hF; refine ⟨(n + 1), (hF.cons (hF.cons (hF.cons hF.nil 22 _ _ rfl rfl) 13 _ _ rfl rfl) 27 _ _ rfl (by go_num)), ⟨H, ?_⟩, ?_⟩
         ·omega
         ·omega
        ·have H := H'.l7; clear H'; refine s_M 3 rfl rfl (s_go rfl rfl rfl (n_alloc (P := Tryz.prog) H rfl (zs := [.int .i64 0, .slice none 0 0]) (by kernel_rfl)) ?_); rintro _ w ⟨b10, rfl, H'⟩; have H := H'.l8; clear H'; refine s_put rfl rfl (n_store 0 H rfl rfl rfl rfl (vs := [.int .i64 5, .slice (some ⟨g5, 0, none⟩) 240 cap5]) rfl (by simp [u8, u32, Value.oneCell']) (by kernel_rfl) (by simp) (out := [.int .i64 5, .slice (some ⟨g5, 0, none⟩) 240 cap5]) rfl) ?_; rintro w H'; have H := H'.l8; clear H'; refine s_M 1 rfl rfl (s_end (k_seq (s_region (s_M 2 rfl rfl (k_updA 158 (u := .bool (decide ((0 : Int) ≠ 0))) (v := .bool false) rfl (congrArg Value.bool (by decide)) (s_M 2 rfl rfl (s_do rfl rfl rfl (d_indexA (l := 16) rfl (z := 1) (j := n) (r := n) (by kernel_rfl) rfl rfl rfl (by omega) (by omega)) (s_do rfl rfl rfl (d_load rfl rfl (by kernel_rfl) (here (H.cel 7 rfl n (laL_get _ (by omega))))) (k_updA 162 (u := .bool (la n)) (v := .bool true) rfl (congrArg Value.bool (by simpa using hc_)) (s_L 3 [1, 0] (mm1 (H.blk 0 rfl) mm0) rfl (by kernel_rfl) rfl (s_do rfl rfl rfl (d_len rfl (z := 1) (by kernel_rfl) rfl) (s_M 1 rfl rfl (k_updA 167 (u := .bool (decide ((240 : Int) ≠ 240))) (v := .bool false) rfl (congrArg Value.bool (by decide)) ?_))))))))))))); refine s_L 3 [1, 0] (mm1 (H.blk 0 rfl) mm0) rfl (by kernel_rfl) rfl (s_do rfl rfl rfl (d_index rfl (z := 1) (j := 0) (r := 0) (by kernel_rfl) rfl rfl rfl (by omega) (by omega)) (s_do rfl rfl rfl (d_load rfl rfl (by kernel_rfl) (here (H.cel 1 rfl 0 (pgF_get _ _ (by omega))))) (s_M 1 rfl rfl (s_do rfl rfl rfl (d_add64 rfl rfl rfl (r := (n : Int) + 1) (by omega) (by omega)) (s_do rfl rfl rfl (d_to8 rfl (by kernel_rfl) rfl) (s_do rfl rfl rfl (d_neq8 (k := .u8) rfl (by kernel_rfl) rfl rfl) (k_updA 176 (u := .bool (decide (byt ((n : Int) + 1) ≠ byt ((n : Int) + 1)))) (v := .bool false) rfl (congrArg Value.bool (by simp)) (s_M 5 rfl rfl (s_do rfl rfl rfl (d_indexA (l := 16) rfl (z := 1) (j := n) (r := n) (by kernel_rfl) rfl rfl rfl (by omega) (by omega)) (s_do rfl rfl rfl (d_load rfl rfl (by kernel_rfl) (here (H.cel 7 rfl n (laL_get _ (by omega))))) (k_updA 183 (u := .bool (la n)) (v := .bool true) rfl (congrArg Value.bool (by simpa using hc_)) (s_M 7 rfl rfl (s_end ?_)))))))))))))
         refine k_false rfl (k_skip (s_region (s_M 1 rfl rfl (s_do rfl rfl rfl (d_add64 rfl rfl rfl (r := (n : Int) + 1) (by omega) (by omega)) (s_M 1 rfl rfl (s_end ?_)))))); replace H := H.f1.d.d.f5.f5.f5.f5.f4.f5; intro _ hF; refine ⟨(n + 1), (hF.cons (hF.cons (hF.cons hF.nil 22 _ _ rfl rfl) 13 _ _ rfl rfl) 27 _ _ rfl (by go_num)), ⟨H, ?_⟩, ?_⟩
         ·omega
         ·omega
       ·refine k_exit (k_here (k_seq (s_region (s_M 1 rfl rfl (s_end (k_ret (doneL rfl [.bool true] ⟨rfl, trivial⟩ (v := .bool true) rfl ?_))))))); exact ⟨[A], ⟨rfl, rfl⟩, H.perm 6 [2] rfl rfl⟩
     ·refine s_M 3 rfl rfl (s_end (k_false rfl (k_skip (k_seq (k_seq (s_region (s_M 1 rfl rfl (s_end (k_block ?_))))))))); refine c_loop (σ := Nat) (fun n => [(27, .int .i64 (n : Int)), (13, .pointer (some ⟨b1, 0, none⟩)), (22, .pointer (some ⟨ps2, 0, none⟩))])
        (fun n w => Sep z (blk b8 [.int .i64 G6.x.gen, .int .i64 G6.x.epoch, .int .i64 G6.x.pages, .int .i64 G6.x.start, .int .i64 G6.x.len, .int .i64 G6.x.head, .int .i64 G6.x.seq] 49 :: stoA ps2 pd D6 G6 none :: A :: moA pm ps t10 :: blk b4 [.int .i64 GS.x.gen, .int .i64 GS.x.epoch, .int .i64 GS.x.pages, .int .i64 GS.x.start, .int .i64 GS.x.len, .int .i64 GS.x.head, .int .i64 GS.x.seq] 49 :: blk b1 (laL la) 69 :: R) w ∧ (n ≤ 16)) (fun n => 16 - n) 0
        (fun _ hF => (hF.cons (hF.cons (hF.cons hF.nil 22 _ _ rfl rfl) 13 _ _ rfl rfl) 27 _ _ rfl (by go_num))) ⟨H, by omega⟩ ?_
      clear H; rintro n w ⟨H', hI⟩; have H := H'.l6; clear H'; have hn_16 := hI; clear hI
      refine k_seq (k_seq (s_region (s_M 2 rfl rfl (s_end (k_dec rfl (fun h11 => ?_) (fun h11 => ?_))))))
      ·refine k_skip (k_seq (k_block (k_seq (s_region (s_M 2 rfl rfl (s_C rfl rfl rfl rfl rfl (fun w => Tryz.call22 _ w) (read_p ps2 pd D6 G6 n (by omega) fi6.clean.f1 (la n = false) ((n : Int) + 1) (hla n (by omega))) H.f1 rfl ?_)))))); rintro _ w _ (⟨hc_, rfl, rfl⟩ | ⟨hc_, g5, cap5, rest5, hcap5, rfl, rfl⟩) H'
       ·have H := H'.l6; clear H'; refine s_M 3 rfl rfl (s_go rfl rfl rfl (n_alloc (P := Tryz.prog) H rfl (zs := [.int .i64 0, .slice none 0 0]) (by kernel_rfl)) ?_); rintro _ w ⟨b11, rfl, H'⟩; have H := H'.l7; clear H'; refine s_put rfl rfl (n_store 0 H rfl rfl rfl rfl (vs := [.int .i64 0, .slice none 0 0]) rfl (by simp [u8, u32, Value.oneCell']) (by kernel_rfl) (by simp) (out := [.int .i64 0, .slice none 0 0]) rfl) ?_; rintro w H'; have H := H'.l7; clear H'; refine s_M 1 rfl rfl (s_end (k_seq (s_region (s_M 2 rfl rfl (k_updA 158 (u := .bool (decide ((0 : Int) ≠ 0))) (v := .bool false) rfl (congrArg Value.bool (by decide)) (s_M 2 rfl rfl (s_do rfl rfl rfl (d_indexA (l := 16) rfl (z := 1) (j := n) (r := n) (by kernel_rfl) rfl rfl rfl (by omega) (by omega)) (s_do rfl rfl rfl (d_load rfl rfl (by kernel_rfl) (here (H.cel 6 rfl n (laL_get _ (by omega))))) (k_updA 162 (u := .bool (la n)) (v := .bool false) rfl (congrArg Value.bool hc_) (s_M 19 rfl rfl (s_do rfl rfl rfl (d_indexA (l := 16) rfl (z := 1) (j := n) (r := n) (by kernel_rfl) rfl rfl rfl (by omega) (by omega)) (s_do rfl rfl rfl (d_load rfl rfl (by kernel_rfl) (here (H.cel 6 rfl n (laL_get _ (by omega))))) (k_updA 183 (u := .bool (la n)) (v := .bool false) rfl (congrArg Value.bool hc_) ?_))))))))))))); refine s_L 5 [0, 0] (mm1 (H.blk 0 rfl) mm0) rfl (by kernel_rfl) rfl (k_updA 188 (u := .bool (decide ((0 : Int) ≠ 0))) (v := .bool false) rfl (congrArg Value.bool (by decide)) (s_M 2 rfl rfl (s_end (k_false rfl (k_skip (s_region (s_M 1 rfl rfl (s_do rfl rfl rfl (d_add64 rfl rfl rfl (r := (n : Int) + 1) (by omega) (by omega)) (s_M 1 rfl rfl (s_end ?_))))))))))
        replace H := H.d.f5.f5.f5.f5.f4.f5; intro _ hF; refine ⟨(n + 1), (hF.cons (hF.cons (hF.cons hF.nil 22 _ _ rfl rfl) 13 _ _ rfl rfl) 27 _ _ rfl (by go_num)), ⟨H, ?_⟩, ?_⟩
        ·omega
        ·omega
       ·have H := H'.l7; clear H'; refine s_M 3 rfl rfl (s_go rfl rfl rfl (n_alloc (P := Tryz.prog) H rfl (zs := [.int .i64 0, .slice none 0 0]) (by kernel_rfl)) ?_); rintro _ w ⟨b12, rfl, H'⟩; have H := H'.l8; clear H'; refine s_put rfl rfl (n_store 0 H rfl rfl rfl rfl (vs := [.int .i64 5, .slice (some ⟨g5, 0, none⟩) 240 cap5]) rfl (by simp [u8, u32, Value.oneCell']) (by kernel_rfl) (by simp) (out := [.int .i64 5, .slice (some ⟨g5, 0, none⟩) 240 cap5]) rfl) ?_; rintro w H'; have H := H'.l8; clear H'; refine s_M 1 rfl rfl (s_end (k_seq (s_region (s_M 2 rfl rfl (k_updA 158 (u := .bool (decide ((0 : Int) ≠ 0))) (v := .bool false) rfl (congrArg Value.bool (by decide)) (s_M 2 rfl rfl (s_do rfl rfl rfl (d_indexA (l := 16) rfl (z := 1) (j := n) (r := n) (by kernel_rfl) rfl rfl rfl (by omega) (by omega)) (s_do rfl rfl rfl (d_load rfl rfl (by kernel_rfl) (here (H.cel 7 rfl n (laL_get _ (by omega))))) (k_updA 162 (u := .bool (la n)) (v := .bool true) rfl (congrArg Value.bool (by simpa using hc_)) (s_L 3 [1, 0] (mm1 (H.blk 0 rfl) mm0) rfl (by kernel_rfl) rfl (s_do rfl rfl rfl (d_len rfl (z := 1) (by kernel_rfl) rfl) (s_M 1 rfl rfl (k_updA 167 (u := .bool (decide ((240 : Int) ≠ 240))) (v := .bool false) rfl (congrArg Value.bool (by decide)) ?_))))))))))))); refine s_L 3 [1, 0] (mm1 (H.blk 0 rfl) mm0) rfl (by kernel_rfl) rfl (s_do rfl rfl rfl (d_index rfl (z := 1) (j := 0) (r := 0) (by kernel_rfl) rfl rfl rfl (by omega) (by omega)) (s_do rfl rfl rfl (d_load rfl rfl (by kernel_rfl) (here (H.cel 1 rfl 0 (pgF_get _ _ (by omega))))) (s_M 1 rfl rfl (s_do rfl rfl rfl (d_add64 rfl rfl rfl (r := (n : Int) + 1) (by omega) (by omega)) (s_do rfl rfl rfl (d_to8 rfl (by kernel_rfl) rfl) (s_do rfl rfl rfl (d_neq8 (k := .u8) rfl (by kernel_rfl) rfl rfl) (k_updA 176 (u := .bool (decide (byt ((n : Int) + 1) ≠ byt ((n : Int) + 1)))) (v := .bool false) rfl (congrArg Value.bool (by simp)) (s_M 5 rfl rfl (s_do rfl rfl rfl (d_indexA (l := 16) rfl (z := 1) (j := n) (r := n) (by kernel_rfl) rfl rfl rfl (by omega) (by omega)) (s_do rfl rfl rfl (d_load rfl rfl (by kernel_rfl) (here (H.cel 7 rfl n (laL_get _ (by omega))))) (k_updA 183 (u := .bool (la n)) (v := .bool true) rfl (congrArg Value.bool (by simpa using hc_)) (s_M 7 rfl rfl (s_end ?_)))))))))))))
        refine k_false rfl (k_skip (s_region (s_M 1 rfl rfl (s_do rfl rfl rfl (d_add64 rfl rfl rfl (r := (n : Int) + 1) (by omega) (by omega)) (s_M 1 rfl rfl (s_end ?_)))))); replace H := H.f1.d.d.f5.f5.f5.f5.f4.f5; intro _ hF; refine ⟨(n + 1), (hF.cons (hF.cons (hF.cons hF.nil 22 _ _ rfl rfl) 13 _ _ rfl rfl) 27 _ _ rfl (by go_num)), ⟨H, ?_⟩, ?_⟩
        ·omega
        ·omega
      ·refine k_exit (k_here (k_seq (s_region (s_M 1 rfl rfl (s_end (k_ret (doneL rfl [.bool true] ⟨rfl, trivial⟩ (v := .bool true) rfl ?_))))))); exact ⟨[A], ⟨rfl, rfl⟩, H.perm 6 [2] rfl rfl⟩
    ·refine s_M 6 rfl rfl (s_end (k_seq (k_seq (s_region (s_M 1 rfl rfl (s_do rfl rfl rfl (d_not_dec rfl rfl) (s_M 1 rfl rfl (s_part 143 rfl (fun h12 => ?_) (fun h12 => ?_)))))))))
     ·(exfalso; omega)
     ·refine s_M 3 rfl rfl (s_end (k_false rfl (k_skip (k_seq (k_seq (s_region (s_M 1 rfl rfl (s_end (k_block ?_))))))))); refine c_loop (σ := Nat) (fun n => [(27, .int .i64 (n : Int)), (13, .pointer (some ⟨b1, 0, none⟩)), (22, .pointer (some ⟨ps2, 0, none⟩))])
        (fun n w => Sep z (blk b8 [.int .i64 G6.x.gen, .int .i64 G6.x.epoch, .int .i64 G6.x.pages, .int .i64 G6.x.start, .int .i64 G6.x.len, .int .i64 G6.x.head, .int .i64 G6.x.seq] 49 :: stoA ps2 pd D6 G6 none :: A :: moA pm ps t10 :: blk b4 [.int .i64 GS.x.gen, .int .i64 GS.x.epoch, .int .i64 GS.x.pages, .int .i64 GS.x.start, .int .i64 GS.x.len, .int .i64 GS.x.head, .int .i64 GS.x.seq] 49 :: blk b1 (laL la) 69 :: R) w ∧ (n ≤ 16)) (fun n => 16 - n) 0
        (fun _ hF => (hF.cons (hF.cons (hF.cons hF.nil 22 _ _ rfl rfl) 13 _ _ rfl rfl) 27 _ _ rfl (by go_num))) ⟨H, by omega⟩ ?_
      clear H; rintro n w ⟨H', hI⟩; have H := H'.l6; clear H'; have hn_16 := hI; clear hI
      refine k_seq (k_seq (s_region (s_M 2 rfl rfl (s_end (k_dec rfl (fun h13 => ?_) (fun h13 => ?_))))))
      ·refine k_skip (k_seq (k_block (k_seq (s_region (s_M 2 rfl rfl (s_C rfl rfl rfl rfl rfl (fun w => Tryz.call22 _ w) (read_p ps2 pd D6 G6 n (by omega) fi6.clean.f1 (la n = false) ((n : Int) + 1) (hla n (by omega))) H.f1 rfl ?_)))))); rintro _ w _ (⟨hc_, rfl, rfl⟩ | ⟨hc_, g5, cap5, rest5, hcap5, rfl, rfl⟩) H'
       ·have H := H'.l6; clear H'; refine s_M 3 rfl rfl (s_go rfl rfl rfl (n_alloc (P := Tryz.prog) H rfl (zs := [.int .i64 0, .slice none 0 0]) (by kernel_rfl)) ?_); rintro _ w ⟨b13, rfl, H'⟩; have H := H'.l7; clear H'; refine s_put rfl rfl (n_store 0 H rfl rfl rfl rfl (vs := [.int .i64 0, .slice none 0 0]) rfl (by simp [u8, u32, Value.oneCell']) (by kernel_rfl) (by simp) (out := [.int .i64 0, .slice none 0 0]) rfl) ?_; rintro w H'; have H := H'.l7; clear H'; refine s_M 1 rfl rfl (s_end (k_seq (s_region (s_M 2 rfl rfl (k_updA 158 (u := .bool (decide ((0 : Int) ≠ 0))) (v := .bool false) rfl (congrArg Value.bool (by decide)) (s_M 2 rfl rfl (s_do rfl rfl rfl (d_indexA (l := 16) rfl (z := 1) (j := n) (r := n) (by kernel_rfl) rfl rfl rfl (by omega) (by omega)) (s_do rfl rfl rfl (d_load rfl rfl (by kernel_rfl) (here (H.cel 6 rfl n (laL_get _ (by omega))))) (k_updA 162 (u := .bool (la n)) (v := .bool false) rfl (congrArg Value.bool hc_) (s_M 19 rfl rfl (s_do rfl rfl rfl (d_indexA (l := 16) rfl (z := 1) (j := n) (r := n) (by kernel_rfl) rfl rfl rfl (by omega) (by omega)) (s_do rfl rfl rfl (d_load rfl rfl (by kernel_rfl) (here (H.cel 6 rfl n (laL_get _ (by omega))))) (k_updA 183 (u := .bool (la n)) (v := .bool false) rfl (congrArg Value.bool hc_) ?_))))))))))))); refine s_L 5 [0, 0] (mm1 (H.blk 0 rfl) mm0) rfl (by kernel_rfl) rfl (k_updA 188 (u := .bool (decide ((0 : Int) ≠ 0))) (v := .bool false) rfl (congrArg Value.bool (by decide)) (s_M 2 rfl rfl (s_end (k_false rfl (k_skip (s_region (s_M 1 rfl rfl (s_do rfl rfl rfl (d_add64 rfl rfl rfl (r := (n : Int) + 1) (by omega) (by omega)) (s_M 1 rfl rfl (s_end ?_))))))))))
        replace H := H.d.f5.f5.f5.f5.f4.f5; intro _ hF; refine ⟨(n + 1), (hF.cons (hF.cons (hF.cons hF.nil 22 _ _ rfl rfl) 13 _ _ rfl rfl) 27 _ _ rfl (by go_num)), ⟨H, ?_⟩, ?_⟩
        ·omega
        ·omega
       ·have H := H'.l7; clear H'; refine s_M 3 rfl rfl (s_go rfl rfl rfl (n_alloc (P := Tryz.prog) H rfl (zs := [.int .i64 0, .slice none 0 0]) (by kernel_rfl)) ?_); rintro _ w ⟨b14, rfl, H'⟩; have H := H'.l8; clear H'; refine s_put rfl rfl (n_store 0 H rfl rfl rfl rfl (vs := [.int .i64 5, .slice (some ⟨g5, 0, none⟩) 240 cap5]) rfl (by simp [u8, u32, Value.oneCell']) (by kernel_rfl) (by simp) (out := [.int .i64 5, .slice (some ⟨g5, 0, none⟩) 240 cap5]) rfl) ?_; rintro w H'; have H := H'.l8; clear H'; refine s_M 1 rfl rfl (s_end (k_seq (s_region (s_M 2 rfl rfl (k_updA 158 (u := .bool (decide ((0 : Int) ≠ 0))) (v := .bool false) rfl (congrArg Value.bool (by decide)) (s_M 2 rfl rfl (s_do rfl rfl rfl (d_indexA (l := 16) rfl (z := 1) (j := n) (r := n) (by kernel_rfl) rfl rfl rfl (by omega) (by omega)) (s_do rfl rfl rfl (d_load rfl rfl (by kernel_rfl) (here (H.cel 7 rfl n (laL_get _ (by omega))))) (k_updA 162 (u := .bool (la n)) (v := .bool true) rfl (congrArg Value.bool (by simpa using hc_)) (s_L 3 [1, 0] (mm1 (H.blk 0 rfl) mm0) rfl (by kernel_rfl) rfl (s_do rfl rfl rfl (d_len rfl (z := 1) (by kernel_rfl) rfl) (s_M 1 rfl rfl (k_updA 167 (u := .bool (decide ((240 : Int) ≠ 240))) (v := .bool false) rfl (congrArg Value.bool (by decide)) ?_))))))))))))); refine s_L 3 [1, 0] (mm1 (H.blk 0 rfl) mm0) rfl (by kernel_rfl) rfl (s_do rfl rfl rfl (d_index rfl (z := 1) (j := 0) (r := 0) (by kernel_rfl) rfl rfl rfl (by omega) (by omega)) (s_do rfl rfl rfl (d_load rfl rfl (by kernel_rfl) (here (H.cel 1 rfl 0 (pgF_get _ _ (by omega))))) (s_M 1 rfl rfl (s_do rfl rfl rfl (d_add64 rfl rfl rfl (r := (n : Int) + 1) (by omega) (by omega)) (s_do rfl rfl rfl (d_to8 rfl (by kernel_rfl) rfl) (s_do rfl rfl rfl (d_neq8 (k := .u8) rfl (by kernel_rfl) rfl rfl) (k_updA 176 (u := .bool (decide (byt ((n : Int) + 1) ≠ byt ((n : Int) + 1)))) (v := .bool false) rfl (congrArg Value.bool (by simp)) (s_M 5 rfl rfl (s_do rfl rfl rfl (d_indexA (l := 16) rfl (z := 1) (j := n) (r := n) (by kernel_rfl) rfl rfl rfl (by omega) (by omega)) (s_do rfl rfl rfl (d_load rfl rfl (by kernel_rfl) (here (H.cel 7 rfl n (laL_get _ (by omega))))) (k_updA 183 (u := .bool (la n)) (v := .bool true) rfl (congrArg Value.bool (by simpa using hc_)) (s_M 7 rfl rfl (s_end ?_)))))))))))))
        refine k_false rfl (k_skip (s_region (s_M 1 rfl rfl (s_do rfl rfl rfl (d_add64 rfl rfl rfl (r := (n : Int) + 1) (by omega) (by omega)) (s_M 1 rfl rfl (s_end ?_)))))); replace H := H.f1.d.d.f5.f5.f5.f5.f4.f5; intro _ hF; refine ⟨(n + 1), (hF.cons (hF.cons (hF.cons hF.nil 22 _ _ rfl rfl) 13 _ _ rfl rfl) 27 _ _ rfl (by go_num)), ⟨H, ?_⟩, ?_⟩
        ·omega
        ·omega
      ·refine k_exit (k_here (k_seq (s_region (s_M 1 rfl rfl (s_end (k_ret (doneL rfl [.bool true] ⟨rfl, trivial⟩ (v := .bool true) rfl ?_))))))); exact ⟨[A], ⟨rfl, rfl⟩, H.perm 6 [2] rfl rfl⟩
   ·refine s_M 7 rfl rfl (s_end (k_seq (s_region (s_L 8 [3, 0] (mm1 (H.blk 0 rfl) mm0) rfl (by kernel_rfl) rfl (s_part 135 rfl (fun h14 => ?_) (fun h14 => ?_))))))
    ·refine s_L 6 [4, 0] (mm1 (H.blk 0 rfl) mm0) rfl (by kernel_rfl) rfl (s_end (k_seq (k_seq (s_region (s_M 4 rfl rfl (s_do rfl rfl rfl (d_not_dec rfl rfl) (s_M 1 rfl rfl (s_end (k_dec rfl (fun h15 => ?_) (fun h15 => ?_))))))))))
     ·(exfalso; omega)
     ·refine k_skip (k_seq (k_seq (s_region (s_M 1 rfl rfl (s_end (k_block ?_)))))); refine c_loop (σ := Nat) (fun n => [(27, .int .i64 (n : Int)), (13, .pointer (some ⟨b1, 0, none⟩)), (22, .pointer (some ⟨ps2, 0, none⟩))])
        (fun n w => Sep z (blk b8 [.int .i64 G6.x.gen, .int .i64 G6.x.epoch, .int .i64 G6.x.pages, .int .i64 G6.x.start, .int .i64 G6.x.len, .int .i64 G6.x.head, .int .i64 G6.x.seq] 49 :: stoA ps2 pd D6 G6 none :: A :: moA pm ps t10 :: blk b4 [.int .i64 GS.x.gen, .int .i64 GS.x.epoch, .int .i64 GS.x.pages, .int .i64 GS.x.start, .int .i64 GS.x.len, .int .i64 GS.x.head, .int .i64 GS.x.seq] 49 :: blk b1 (laL la) 69 :: R) w ∧ (n ≤ 16)) (fun n => 16 - n) 0
        (fun _ hF => (hF.cons (hF.cons (hF.cons hF.nil 22 _ _ rfl rfl) 13 _ _ rfl rfl) 27 _ _ rfl (by go_num))) ⟨H, by omega⟩ ?_
      clear H; rintro n w ⟨H', hI⟩; have H := H'.l6; clear H'; have hn_16 := hI; clear hI
      refine k_seq (k_seq (s_region (s_M 2 rfl rfl (s_end (k_dec rfl (fun h16 => ?_) (fun h16 => ?_))))))
      ·refine k_skip (k_seq (k_block (k_seq (s_region (s_M 2 rfl rfl (s_C rfl rfl rfl rfl rfl (fun w => Tryz.call22 _ w) (read_p ps2 pd D6 G6 n (by omega) fi6.clean.f1 (la n = false) ((n : Int) + 1) (hla n (by omega))) H.f1 rfl ?_)))))); rintro _ w _ (⟨hc_, rfl, rfl⟩ | ⟨hc_, g5, cap5, rest5, hcap5, rfl, rfl⟩) H'
       ·have H := H'.l6; clear H'; refine s_M 3 rfl rfl (s_go rfl rfl rfl (n_alloc (P := Tryz.prog) H rfl (zs := [.int .i64 0, .slice none 0 0]) (by kernel_rfl)) ?_); rintro _ w ⟨b15, rfl, H'⟩; have H := H'.l7; clear H'; refine s_put rfl rfl (n_store 0 H rfl rfl rfl rfl (vs := [.int .i64 0, .slice none 0 0]) rfl (by simp [u8, u32, Value.oneCell']) (by kernel_rfl) (by simp) (out := [.int .i64 0, .slice none 0 0]) rfl) ?_; rintro w H'; have H := H'.l7; clear H'; refine s_M 1 rfl rfl (s_end (k_seq (s_region (s_M 2 rfl rfl (k_updA 158 (u := .bool (decide ((0 : Int) ≠ 0))) (v := .bool false) rfl (congrArg Value.bool (by decide)) (s_M 2 rfl rfl (s_do rfl rfl rfl (d_indexA (l := 16) rfl (z := 1) (j := n) (r := n) (by kernel_rfl) rfl rfl rfl (by omega) (by omega)) (s_do rfl rfl rfl (d_load rfl rfl (by kernel_rfl) (here (H.cel 6 rfl n (laL_get _ (by omega))))) (k_updA 162 (u := .bool (la n)) (v := .bool false) rfl (congrArg Value.bool hc_) (s_M 19 rfl rfl (s_do rfl rfl rfl (d_indexA (l := 16) rfl (z := 1) (j := n) (r := n) (by kernel_rfl) rfl rfl rfl (by omega) (by omega)) (s_do rfl rfl rfl (d_load rfl rfl (by kernel_rfl) (here (H.cel 6 rfl n (laL_get _ (by omega))))) (k_updA 183 (u := .bool (la n)) (v := .bool false) rfl (congrArg Value.bool hc_) ?_))))))))))))); refine s_L 5 [0, 0] (mm1 (H.blk 0 rfl) mm0) rfl (by kernel_rfl) rfl (k_updA 188 (u := .bool (decide ((0 : Int) ≠ 0))) (v := .bool false) rfl (congrArg Value.bool (by decide)) (s_M 2 rfl rfl (s_end (k_false rfl (k_skip (s_region (s_M 1 rfl rfl (s_do rfl rfl rfl (d_add64 rfl rfl rfl (r := (n : Int) + 1) (by omega) (by omega)) (s_M 1 rfl rfl (s_end ?_))))))))))
        replace H := H.d.f5.f5.f5.f5.f4.f5; intro _ hF; refine ⟨(n + 1), (hF.cons (hF.cons (hF.cons hF.nil 22 _ _ rfl rfl) 13 _ _ rfl rfl) 27 _ _ rfl (by go_num)), ⟨H, ?_⟩, ?_⟩
        ·omega
        ·omega
       ·have H := H'.l7; clear H'; refine s_M 3 rfl rfl (s_go rfl rfl rfl (n_alloc (P := Tryz.prog) H rfl (zs := [.int .i64 0, .slice none 0 0]) (by kernel_rfl)) ?_); rintro _ w ⟨b16, rfl, H'⟩; have H := H'.l8; clear H'; refine s_put rfl rfl (n_store 0 H rfl rfl rfl rfl (vs := [.int .i64 5, .slice (some ⟨g5, 0, none⟩) 240 cap5]) rfl (by simp [u8, u32, Value.oneCell']) (by kernel_rfl) (by simp) (out := [.int .i64 5, .slice (some ⟨g5, 0, none⟩) 240 cap5]) rfl) ?_; rintro w H'; have H := H'.l8; clear H'; refine s_M 1 rfl rfl (s_end (k_seq (s_region (s_M 2 rfl rfl (k_updA 158 (u := .bool (decide ((0 : Int) ≠ 0))) (v := .bool false) rfl (congrArg Value.bool (by decide)) (s_M 2 rfl rfl (s_do rfl rfl rfl (d_indexA (l := 16) rfl (z := 1) (j := n) (r := n) (by kernel_rfl) rfl rfl rfl (by omega) (by omega)) (s_do rfl rfl rfl (d_load rfl rfl (by kernel_rfl) (here (H.cel 7 rfl n (laL_get _ (by omega))))) (k_updA 162 (u := .bool (la n)) (v := .bool true) rfl (congrArg Value.bool (by simpa using hc_)) (s_L 3 [1, 0] (mm1 (H.blk 0 rfl) mm0) rfl (by kernel_rfl) rfl (s_do rfl rfl rfl (d_len rfl (z := 1) (by kernel_rfl) rfl) (s_M 1 rfl rfl (k_updA 167 (u := .bool (decide ((240 : Int) ≠ 240))) (v := .bool false) rfl (congrArg Value.bool (by decide)) ?_))))))))))))); refine s_L 3 [1, 0] (mm1 (H.blk 0 rfl) mm0) rfl (by kernel_rfl) rfl (s_do rfl rfl rfl (d_index rfl (z := 1) (j := 0) (r := 0) (by kernel_rfl) rfl rfl rfl (by omega) (by omega)) (s_do rfl rfl rfl (d_load rfl rfl (by kernel_rfl) (here (H.cel 1 rfl 0 (pgF_get _ _ (by omega))))) (s_M 1 rfl rfl (s_do rfl rfl rfl (d_add64 rfl rfl rfl (r := (n : Int) + 1) (by omega) (by omega)) (s_do rfl rfl rfl (d_to8 rfl (by kernel_rfl) rfl) (s_do rfl rfl rfl (d_neq8 (k := .u8) rfl (by kernel_rfl) rfl rfl) (k_updA 176 (u := .bool (decide (byt ((n : Int) + 1) ≠ byt ((n : Int) + 1)))) (v := .bool false) rfl (congrArg Value.bool (by simp)) (s_M 5 rfl rfl (s_do rfl rfl rfl (d_indexA (l := 16) rfl (z := 1) (j := n) (r := n) (by kernel_rfl) rfl rfl rfl (by omega) (by omega)) (s_do rfl rfl rfl (d_load rfl rfl (by kernel_rfl) (here (H.cel 7 rfl n (laL_get _ (by omega))))) (k_updA 183 (u := .bool (la n)) (v := .bool true) rfl (congrArg Value.bool (by simpa using hc_)) (s_M 7 rfl rfl (s_end ?_)))))))))))))
        refine k_false rfl (k_skip (s_region (s_M 1 rfl rfl (s_do rfl rfl rfl (d_add64 rfl rfl rfl (r := (n : Int) + 1) (by omega) (by omega)) (s_M 1 rfl rfl (s_end ?_)))))); replace H := H.f1.d.d.f5.f5.f5.f5.f4.f5; intro _ hF; refine ⟨(n + 1), (hF.cons (hF.cons (hF.cons hF.nil 22 _ _ rfl rfl) 13 _ _ rfl rfl) 27 _ _ rfl (by go_num)), ⟨H, ?_⟩, ?_⟩
        ·omega
        ·omega
      ·refine k_exit (k_here (k_seq (s_region (s_M 1 rfl rfl (s_end (k_ret (doneL rfl [.bool true] ⟨rfl, trivial⟩ (v := .bool true) rfl ?_))))))); exact ⟨[A], ⟨rfl, rfl⟩, H.perm 6 [2] rfl rfl⟩
    ·(exfalso; omega)
end Go.Proofs.YtbegkbjigbkljaaGreatDoor
namespace Go.Proofs.YtbegkbjigbkljaaGreatDoor
open Go.ChangeShapes Go.WideShapes Go.ChangeAt Go.RowKit Go.Joins
theorem rcr_met (os : Os) : laidMet Tryz.prog Rows.relogCrashUptoRow.laid ((laidWorld os).forCall (fun _ _ => 0) ⟨#[], #[.slice none 0 0, .int .i64 0, .int .i64 0, .int .i64 0, .slice none 0 0], []⟩).memory :=
  laidMet_of_run' 8 (by kernel_rfl) (by kernel_rfl)
theorem rcr_reads (os : Os) {H : Type} (enc : TypeId × Value → H) : ∃ places, DataW.whole enc Tryz.prog ((laidWorld os).forCall (fun _ _ => 0) ⟨#[], #[.slice none 0 0, .int .i64 0, .int .i64 0, .int .i64 0, .slice none 0 0], []⟩).memory Tryz.f5.params.toList Rows.relogCrashSpec.vars false #[Value.slice none 0 0, .int .i64 0, .int .i64 0, .int .i64 0, .slice none 0 0].toList 8 = some ([.nil, .lit (.int .i64 0), .lit (.int .i64 0), .lit (.int .i64 0), .nil], [], places) :=
  ⟨[], by kernel_rfl⟩
theorem rcr_contract (H : Type) (enc : TypeId × Value → H) (W : World) (base : Nat) (args : Array Value) (ds gs : List (DataW H)) (before : List MemPlace)
    (hval : ∀ (j : Nat) t v, Tryz.f5.params[j]? = some t → args[j]? = some v → Value.okWide Tryz.prog W .any base t v)
    (hW : DataW.Whole enc Tryz.prog Tryz.f5.params.toList Rows.relogCrashSpec.vars false W args.toList ds gs before) (hk : Rows.uptoSmall H (ds ++ gs) = true) :
    Calls Tryz.prog 5 args W fun e W' => ∃ v, e = .returned v ∧ Rows.relogCrashSpec.post enc Tryz.prog Tryz.f5 false true false false W args v W' := by
  have hW0 := hW
  obtain ⟨p, q, hA0, hV, rfl, _, _⟩ := hW
  have hA : DataW.TrodAll enc Tryz.prog W 0 (fun _ => true) true Tryz.f5.params.toList args.toList ds p := hA0
  rw [Tryz.params5] at hA hval
  obtain ⟨v0, v1, v2, v3, v4, d0, d1, d2, d3, d4, p0, p1, p2, p3, p4, rfl, rfl, rfl, h0, h1, h2, h3, h4⟩ := trod5 hA
  obtain ⟨rfl, rfl⟩ := trodVars_none hV
  simp only [List.append_nil] at hW0 hk
  have t0 : ∀ x ∈ p0, x.block < W.heap.size := fun x hx => by have := hW0.lt x (by simp [hx]); simpa using this
  have t4 : ∀ x ∈ p4, x.block < W.heap.size := fun x hx => by have := hW0.lt x (by simp [hx]); simpa using this
  have hb : Rows.uptoBulkAll [d0, d1, d2, d3, d4] ≤ 1048576 := of_decide_eq_true hk
  simp only [Rows.uptoBulkAll] at hb
  obtain ⟨ao0, l0, c0, rfl⟩ := okWide_slice Tryz.underlying45 (hval 0 45 v0 rfl rfl)
  obtain ⟨fuel0, hf0⟩ := id h0
  obtain ⟨pk0, hpk0, hlen0⟩ := open_rdB (h := hf0)
  obtain ⟨i1, rfl, rfl, rfl, wi1⟩ := open_int Tryz.underlying3 (hval 1 3 v1 rfl rfl) h1
  obtain ⟨i2, rfl, rfl, rfl, wi2⟩ := open_int Tryz.underlying3 (hval 2 3 v2 rfl rfl) h2
  obtain ⟨i3, rfl, rfl, rfl, wi3⟩ := open_int Tryz.underlying3 (hval 3 3 v3 rfl rfl) h3
  obtain ⟨ao4, l4, c4, rfl⟩ := okWide_slice Tryz.underlying45 (hval 4 45 v4 rfl rfl)
  obtain ⟨fuel4, hf4⟩ := id h4
  obtain ⟨pk4, hpk4, hlen4⟩ := open_rdB (h := hf4)
  refine (Cn.run (relogCrash_c _ _ i1 i2 i3 pk0 pk4 (by omega) (YtbegkbjigbkljaaGreatDoor.base W) (fun h hh => ⟨rd_base hpk0 h hh, rd_base hpk4 h hh⟩))).mono fun e W' hR => ?_
  obtain ⟨u, rfl, rfl, x⟩ : ∃ u, e = Ending.returned u ∧ u = .bool true ∧ Ext No W W' := by cases e <;> first | exact ⟨_, rfl, hR⟩ | exact hR.elim
  exact ⟨_, rfl, _, _, _, [], _, [], hW0, trodAll_mk1 (shut_bool Tryz.underlying4 true), trodmk5 (Below.trod laidOut (by kernel_rfl) (of_decide_eq_true (by kernel_rfl)) h0 x.below t0) (shut_int Tryz.underlying3 wi1) (shut_int Tryz.underlying3 wi2) (shut_int Tryz.underlying3 wi3) (Below.trod laidOut (by kernel_rfl) (of_decide_eq_true (by kernel_rfl)) h4 x.below t4), rfl, x.below.frame _, fun h => by cases h⟩
theorem rcr_lifted (os : Os) (started : os.Started) (H : Type) (enc : TypeId × Value → H) (F : Stop.Interp) :
    ReturnsInHanded {} Tryz.checked os 5 .any ((Rows.OpenSpec.upto Rows.relogCrashSpec).preRow enc Tryz.prog Tryz.f5 Rows.relogCrashUptoRow.domain false Rows.relogCrashUptoRow.laid) (((Rows.OpenSpec.upto Rows.relogCrashSpec).at F).post enc Tryz.prog Tryz.f5 false true false false) := by
  obtain ⟨places, hx⟩ := rcr_reads os enc
  refine returnsInHanded_of_row (C := Tryz.checked) (s := Rows.OpenSpec.upto Rows.relogCrashSpec) own started (by kernel_rfl) Tryz.func5
    (witness_row_at (enc := enc) (C := Tryz.checked) false (laidWorld os) #[.slice none 0 0, .int .i64 0, .int .i64 0, .int .i64 0, .slice none 0 0] rfl (by kernel_rfl) (by kernel_rfl) (by kernel_rfl)
      (OpenSpec.preRow_of_cond 8 hx (by kernel_rfl) (fun k hk => by cases hk; kernel_rfl) (by kernel_rfl) (rcr_met os))) ?_
  intro W base args ds gs before hval hW _ hcond _ _ _ _
  exact rcr_contract H enc W base args ds gs before hval hW (hcond _ rfl)
theorem rcr_said : Rows.RelogCrashUptoSaid :=
  OpenClaim.holds_of_cond 5 Tryz.f5 rfl rfl rfl rfl rfl rfl rfl ⟨rfl, rfl, rfl, rfl, rfl⟩ rfl rfl rfl rfl rfl (by kernel_rfl) Tryz.func5 (by kernel_rfl)
    (of_decide_eq_true (by kernel_rfl)) (by unfold Func.isWrapper; first | (rw [if_pos (by decide +kernel)]; kernel_rfl) | (rw [if_neg (by decide +kernel)]; exact ⟨rfl, rfl⟩))
    (fun os started H enc _ F => by rw [OpenClaim.pre_eq_preRow]; exact rcr_lifted os started H enc F)
theorem rcr_plain (f : FuncId) (fn : Func) (hf : Tryz.pinned.checked.prog.funcNamed "polder/polderlaw07.RelogCrash" = some f) (hfn : Tryz.pinned.checked.prog.funcs[f]? = some fn) :
    false = Tryz.pinned.checked.prog.looks [] ∧ ∀ (j : Nat) t, fn.params[j]? = some t → Tryz.pinned.checked.prog.wantsStandIn t = false := by
  obtain rfl : f = 5 := Option.some.inj ((show Tryz.prog.funcNamed "polder/polderlaw07.RelogCrash" = some 5 by kernel_rfl).symm.trans hf) |>.symm
  obtain rfl : fn = Tryz.f5 := (Option.some.inj (Tryz.func5.symm.trans hfn)).symm
  refine ⟨by kernel_rfl, fun j t ht => ?_⟩
  rw [Tryz.params5] at ht
  have hm := Array.mem_of_getElem? ht
  simp at hm
  rcases hm with rfl | rfl | rfl | rfl | rfl <;> first | exact (show Tryz.prog.wantsStandIn 45 = false by kernel_rfl) | exact (show Tryz.prog.wantsStandIn 3 = false by kernel_rfl)
theorem relogCrash_holds : Rows.RelogCrashUptoCardSaid :=
  Claim7.holds_tied_plain_at .later [] _ _ _ _ rcr_said (fun _ h => by cases h) (by kernel_rfl) (fun _ h => by cases h) relogCrashUpto_row_tie rfl ⟨rfl, rfl⟩ (by kernel_rfl) rfl rcr_plain (by kernel_rfl)
end Go.Proofs.YtbegkbjigbkljaaGreatDoor
