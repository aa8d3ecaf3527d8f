/-
  Steps to: A crash in the middle of a move leaves the log where it was or where it was asked to, and all that was synced. No condition.
-/
import Derived.Test.YtbegkbjigbkljaaGreatDoorPart3
import Derived.Test.YtbegkbjigbkljaaGreatDoorCards
import Derived.Test.YtbegkbjigbkljaaGreatDoorTie
import Derived.WalkKit
import Derived.WalkSpells
import Derived.Deep.Quiet
import Derived.KernelRfl
import Derived.IntWalk
import Derived.Maps.AppendAt
import Derived.Laws.AppendOwnNone
import Derived.Laws.CopyRow
import Derived.StillTail
import Derived.Deep.RegionHeld
import Derived.Laws.IdiomStrings
import Derived.Laws.BytesArg
import Derived.Laws.OwnMore
import Derived.Lib.Strings
import Derived.ArgAppend
import Derived.RangeFuncLeaves
import Derived.RangeFuncRecord
import Derived.RangeFuncCalls
import Derived.RangeFuncSeq
import Derived.OrdersIn
import Derived.TacticsIn
import Derived.Laws.IdiomRangeMap
import Derived.Defers
import Derived.Laws.LoneSync
import Derived.LoopN
import Derived.Test.YtbegkbjigbkljaaGreatDoorRows
import Derived.Test.YtbegkbjigbkljaaGreatDoorProg
import Derived.Shelf.Sort.Plain
import Derived.Shelf.Slices.In.SortNone
import Derived.DataReads
import Derived.ProofKit
import Derived.OpenShut
import Derived.Lib.SmallJoins
import Derived.Deep.DeepHandedRow
import Derived.Lib.LaidTab
set_option maxRecDepth 100000
set_option linter.unusedSimpArgs false
set_option linter.unusedVariables false
namespace Go.Proofs.YtbegkbjigbkljaaGreatDoor
open Go.RowKit
theorem keysP_it (bb m clk : Nat) (l : List IE) (hold : ∀ p ∈ l, p.2.2 < clk) (hn : (l.map fun p : IE => p.2.2).Nodup) : ItG Tryz.prog 127 [.pointer (some ⟨bb, 0, none⟩)] [blk bb [.map (some m)] 106, mapB m l clk] (stpK l) [] (finK l) := by
  intro z l_ J hY w H'
  have H := H'.l2; clear H'
  refine it_enter (args := [.func (.yield l_) #[] #[], .pointer (some ⟨bb, 0, none⟩)]) Tryz.func127 rfl rfl 14 Tryz.ntmps127 rfl ?_
  refine rk_seq ?_
  refine rs_region ?_
  refine s_do rfl rfl rfl (d_load rfl rfl (by kernel_rfl) (here (H.cel 0 rfl 0 rfl))) ?_
  refine s_go rfl rfl rfl (n_range 1 (e := 65) H rfl rfl (by kernel_rfl) rfl) ?_
  rintro _ w ⟨rr, rfl, H'⟩
  have H := H'.l3; clear H'
  refine s_end ?_
  refine rk_block ?_
  refine rc_loop (σ := List IE) (fun s => [(0, .func (.yield l_) #[] #[]), (5, .pointer (some ⟨rr, 0, none⟩))])
    (fun s w => Sep z (itB rr m clk (s.map fun p : IE => p.2.2) :: blk bb [.map (some m)] 106 :: mapB m l clk :: J s) w ∧ (True)) (fun s => (leftL l (s.map fun p : IE => p.2.2)).length) ([])
    (fun _ hF => (hF.all rfl)) ⟨H, trivial⟩ ?_
  clear H; rintro s w ⟨H', hI⟩
  have H := H'.l3; clear H'
  refine rk_seq ?_
  refine rs_region ?_
  refine s_go rfl rfl rfl (n_next 0 2 H rfl rfl rfl rfl hold) ?_
  rintro _ w ⟨qx, rfl, hqx, H'⟩
  have H := H'.l3; clear H'
  refine s_do rfl rfl rfl (d_nx0 rfl rfl) ?_
  refine s_end ?_
  refine rk_seq ?_
  refine rk_cond rfl (fun h1 => ?_) (fun h1 => ?_)
  · -- yes: qx.isSome
    obtain ⟨p1, rfl⟩ := Option.isSome_iff_exists.1 h1
    refine rk_skip ?_
    refine rk_block ?_
    refine rk_seq ?_
    refine rs_region ?_
    refine s_do rfl rfl rfl (d_entry (p := p1) rfl rfl (here ⟨H.bk 0 rfl, H.bk 2 rfl⟩) (leftL_mem hqx).1 hn) ?_
    refine s_do rfl rfl rfl (d_extract rfl rfl rfl) ?_
    refine s_do rfl rfl rfl (d_assign rfl rfl) ?_
    refine s_end ?_
    refine rk_seq ?_
    refine i_region ?_
    refine i_do rfl rfl rfl (d_move rfl rfl) ?_
    refine i_do rfl rfl rfl (d_move rfl rfl) ?_
    replace H := H.f2.f2
    refine i_yield rfl rfl rfl rfl rfl rfl (hY s _ (s ++ [p1]) [itB rr m clk ((s.map fun p : IE => p.2.2) ++ [p1.2.2])] ⟨p1, hqx, rfl, rfl⟩ _ H) ?_
    rintro _ w ⟨rfl, H'⟩
    refine ⟨_, rfl, ?_⟩
    have H := H'.l3; clear H'
    refine i_do rfl rfl rfl (d_not rfl rfl) ?_
    refine i_end ?_
    refine rk_false rfl ?_
    refine rk_skip ?_
    replace H := H.f1.f1.f2
    intro _ hF
    refine ⟨(s ++ [p1]), (hF.all rfl), ⟨(by rw [List.map_append]; exact H), ?_⟩, ?_⟩
    · trivial
    · (have := leftL_less hqx; rwa [show (s ++ [p1]).map (fun p : IE => p.2.2) = (s.map fun p : IE => p.2.2) ++ [p1.2.2] from by simp])
  · -- no: qx.isSome
    obtain rfl : qx = none := by simpa using h1
    refine rk_exit ?_
    refine k_here ?_
    exact fun _ hF => ⟨hF.defers, s, hqx, H.perm 3 [1, 2] rfl rfl⟩
theorem appendSeqP_c (bb m clk : Nat) (l : List IE) (hold : ∀ p ∈ l, p.2.2 < clk) (hn : (l.map fun p : IE => p.2.2).Nodup) (hll : l.length ≤ 1099511627776) : Cn Tryz.prog 146 [.slice none 0 0, .func (.func 127) #[] #[.pointer (some ⟨bb, 0, none⟩)]] [blk bb [.map (some m)] 106, mapB m l clk] (fun v Γ => ∃ s : List IE, s.Perm l ∧ Γ = [blk bb [.map (some m)] 106, mapB m l clk, grow 3 1 v s.length (kC s)]) := by
 intro z R w H'; have H : Sep z (blk bb [.map (some m)] 106 :: mapB m l clk :: R) w := H'
 clear H'; refine enterM Tryz.func146 rfl 13 Tryz.ntmps146 rfl (k_seq (s_region (s_go rfl rfl rfl (n_box H rfl rfl (cs := [.slice none 0 0]) rfl) ?_))); rintro _ w ⟨b1, rfl, H'⟩; have H := H'.l3; clear H'; refine s_M 1 rfl rfl (s_end (k_seq (k_seq (s_region (s_M 1 rfl rfl (s_end (k_block ?_))))))); have H' := H.nilg 3 1
 have H := H'.l4; clear H'; replace H := H.f1; have H' := H.toVec (l := l) (s := []) (by simp) (by simp)
 have H := H'.l3; clear H'; replace H := H.f2.f2; have H' := Sep.swap (As := [blk bb [.map (some m)] 106, mapB m l clk]) (Bs := (vecA b1 l [] :: R)) H; clear H
 refine k_rangeG (fun s => (vecA b1 l s :: R)) rfl (fun u w => Tryz.call127 u w) rfl (keysP_it bb m clk l hold hn) H' ?_ ?_
 ·rintro ro s v s2 ⟨p, hp, rfl, rfl⟩ w; refine rs_region (s_M 1 rfl rfl (s_end ?_)); refine fun a hF => ⟨rfl, fun F w H' => ?_⟩
  revert a hF; have H := H'.l1; clear H'; obtain ⟨hps, v1, H'⟩ := H.vec; clear H; have H := H'.l2; clear H'; have sv1 := H.says 1 rfl (fun h q => q.slc)
  have hsl := stamps_len hps
  refine rk_block (rs_region (s_L 2 [0] (mm1 (H.blk 0 rfl) mm0) rfl (by kernel_rfl) rfl (s_go rfl rfl rfl (n_buildSlice H rfl (by kernel_rfl) (Elt.mk (P := Tryz.prog) (e := 3) (z := .int .i64 0) (sz := 1) (by_ := 8) (by kernel_rfl) rfl (by omega) (by omega)) rfl (by decide) (by decide) (out := [.int .i64 p.1]) (by kernel_rfl)) ?_))); rintro _ w ⟨b2, rfl, H'⟩; have H := H'.l3; clear H'; refine s_go rfl rfl rfl (n_append 2 H rfl rfl (by kernel_rfl) (Elt.mk (P := Tryz.prog) (e := 3) (z := .int .i64 0) (sz := 1) (by_ := 8) (by kernel_rfl) rfl (by omega) (by omega)) rfl rfl (H.rd 0 rfl (fun h q => q.rd (by omega) (by omega) (by simp) rfl)) (by simp [Value.oneCell']) (by omega)) ?_; rintro v3 w H'; have H' : Sep z (blk b2 [.int .i64 p.1] 3 :: blk b1 [v1] 45 :: grow 3 1 v3 (s.length + 1) (kC s ++ [.int .i64 p.1]) :: (R ++ F)) w := H'
  have ev3 : (kC s ++ [.int .i64 p.1] : List Value) = kC (s ++ [p]) := kC_snoc s p
  rw [ev3] at H'; rw [show (s.length + 1 : Nat) = (s ++ [p]).length from by simp] at H'; have H := H'.l3; clear H'; have sv3 := H.says 2 rfl (fun h q => q.slc)
  refine s_put rfl rfl (n_store 1 H rfl rfl rfl rfl (vs := [v3]) sv3.cells (one_cons sv3.one one_nil) (by kernel_rfl) (by simp) (out := [v3]) rfl) ?_; rintro w H'; have H := H'.l3; clear H'; refine s_end ?_; replace H := H.d; have hp2 := stamps_snoc hps hp
  exact fun _ _ => H.toVec hp2.1 hp2.2
 ·rintro D0 w s hfin H'; have H := H'.l2; clear H'; replace H := H.f1; obtain ⟨hps, v1, H'⟩ := H.vec; clear H; have H := H'.l3; clear H'; have sv1 := H.says 1 rfl (fun h q => q.slc)
  refine k_seq (s_region (s_L 2 [0] (mm1 (H.blk 0 rfl) mm0) rfl (by kernel_rfl) rfl (s_end (k_ret ?_)))); replace H := H.f2; refine doneM1 H (rs := [.tmp 4]) rfl [v1] (fun _ => ⟨rfl, trivial⟩) (v := v1) rfl (fun w H' => ?_); clear H; have H := H'.l2; clear H'; have H' := Sep.swap (As := grow 3 1 v1 s.length (kC s) :: R) (Bs := [blk bb [.map (some m)] 106, mapB m l clk]) (H.pick 2 [1] rfl)
  exact ⟨[blk bb [.map (some m)] 106, mapB m l clk, grow 3 1 v1 s.length (kC s)], ⟨s, stamps_perm hn hps hfin, rfl⟩, H'⟩
theorem keysP_c (m : Nat) : Cn Tryz.prog 91 [.map (some m)] [] (fun v Γ => ∃ bb, v = .func (.func 127) #[] #[.pointer (some ⟨bb, 0, none⟩)] ∧ Γ = [blk bb [.map (some m)] 106]) := by
 intro z R w H'; have H : Sep z (R) w := H'
 clear H'; refine enter Tryz.func91 rfl 4 Tryz.ntmps91 rfl (k_seq (s_region (s_go rfl rfl rfl (n_box H rfl rfl (cs := [.map (some m)]) rfl) ?_))); rintro _ w ⟨b1, rfl, H'⟩; have H := H'.l1; clear H'; refine s_M 1 rfl rfl (s_end (k_seq (s_region (s_do rfl rfl rfl (d_makeFunc rfl rfl rfl) (s_M 1 rfl rfl (s_end (k_ret (doneL rfl [.func (.func 127) #[] #[.pointer (some ⟨b1, 0, none⟩)]] ⟨rfl, trivial⟩ (v := .func (.func 127) #[] #[.pointer (some ⟨b1, 0, none⟩)]) rfl ?_)))))))); exact ⟨[blk b1 [.map (some m)] 106], ⟨b1, rfl, rfl⟩, H⟩
theorem collectP_c (bb m clk : Nat) (l : List IE) (hold : ∀ p ∈ l, p.2.2 < clk) (hn : (l.map fun p : IE => p.2.2).Nodup) (hll : l.length ≤ 1099511627776) : Cn Tryz.prog 125 [.func (.func 127) #[] #[.pointer (some ⟨bb, 0, none⟩)]] [blk bb [.map (some m)] 106, mapB m l clk] (fun v Γ => ∃ s : List IE, s.Perm l ∧ Γ = [blk bb [.map (some m)] 106, mapB m l clk, grow 3 1 v s.length (kC s)]) := by
 intro z R w H'; have H : Sep z (blk bb [.map (some m)] 106 :: mapB m l clk :: R) w := H'
 clear H'; refine enter Tryz.func125 rfl 5 Tryz.ntmps125 rfl (k_seq (s_region (s_M 1 rfl rfl (s_end (k_seq (s_region (s_M 1 rfl rfl (s_C rfl rfl rfl rfl rfl (fun w => Tryz.call146 _ w) (appendSeqP_c _ _ _ _ hold hn hll) H rfl ?_)))))))); rintro v2 w _ ⟨s, hs, rfl⟩ H'; have H := H'.l3; clear H'; have sv2 := H.says 2 rfl (fun h q => q.slc)
 refine s_M 1 rfl rfl (s_end (k_ret (doneL rfl [v2] ⟨rfl, trivial⟩ (v := v2) rfl ?_))); exact ⟨[blk bb [.map (some m)] 106, mapB m l clk, grow 3 1 v2 s.length (kC s)], ⟨s, hs, rfl⟩, H⟩
theorem sortedP_c (bb m clk : Nat) (l : List IE) (hold : ∀ p ∈ l, p.2.2 < clk) (hn : (l.map fun p : IE => p.2.2).Nodup) (hll : l.length ≤ 1099511627776) : Cn Tryz.prog 90 [.func (.func 127) #[] #[.pointer (some ⟨bb, 0, none⟩)]] [blk bb [.map (some m)] 106, mapB m l clk] (fun v Γ => ∃ s : List IE, s.Perm l ∧ Γ = [grow 3 1 v ((s.map fun p : IE => p.1).mergeSort (fun x y => decide (x ≤ y))).length (((s.map fun p : IE => p.1).mergeSort (fun x y => decide (x ≤ y))).map (Value.int .i64)), blk bb [.map (some m)] 106, mapB m l clk]) := by
 intro z R w H'; have H : Sep z (blk bb [.map (some m)] 106 :: mapB m l clk :: R) w := H'
 clear H'; refine enter Tryz.func90 rfl 9 Tryz.ntmps90 rfl (k_seq (s_region (s_M 1 rfl rfl (s_end (k_seq (s_region (s_M 1 rfl rfl (s_C rfl rfl rfl rfl rfl (fun w => Tryz.call125 _ w) (collectP_c _ _ _ _ hold hn hll) H rfl ?_)))))))); rintro v2 w _ ⟨s, hs, rfl⟩ H'; have H := H'.l3; clear H'; have sv2 := H.says 2 rfl (fun h q => q.slc)
 refine s_M 1 rfl rfl (s_end (k_seq (s_region (s_M 1 rfl rfl ?_)))); have hsl : (s.map fun p : IE => p.1).length = s.length := by simp
 have hsp := hs.length_eq
 have H' := H.mono 2 (B := grow 3 1 v2 (s.map fun p : IE => p.1).length ((s.map fun p : IE => p.1).map (Value.int .i64))) rfl (fun h q => by rw [hsl, List.map_map]; exact q)
 have H := H'.l3; clear H'; refine s_C rfl rfl rfl rfl rfl (fun w => Tryz.call126 _ w) (sort_c _ _ (by omega)) H.f2 rfl ?_; rintro _ w _ ⟨rfl, ys, rfl, rfl⟩ H'; have H := H'.l3; clear H'; refine s_end (k_seq (s_region (s_M 2 rfl rfl (s_end (k_ret (doneL rfl [v2] ⟨rfl, trivial⟩ (v := v2) rfl ?_)))))); exact ⟨[grow 3 1 v2 (((s.map fun p : IE => p.1).mergeSort (fun x y => decide (x ≤ y))).length) (((s.map fun p : IE => p.1).mergeSort (fun x y => decide (x ≤ y))).map (Value.int .i64)), blk bb [.map (some m)] 106, mapB m l clk], ⟨s, hs, rfl⟩, H⟩
end Go.Proofs.YtbegkbjigbkljaaGreatDoor
namespace Go.Proofs.YtbegkbjigbkljaaGreatDoor
open Go.RowKit
def KsOk (f : Pgs) (ks : List Int) : Prop := ks.Pairwise (· < ·) ∧ ∀ k : Int, k ∈ ks ↔ 0 ≤ k ∧ (f k.toNat).isSome = true
def pgLst (f : Pgs) (ks : List Int) : List (Nat × Pg) := ks.map fun k => (k.toNat, (f k.toNat).getD noPg)
theorem pgLst_mem {f : Pgs} {ks : List Int} (h : KsOk f ks) (n : Nat) (p : Pg) : (n, p) ∈ pgLst f ks ↔ f n = some p := by
  unfold pgLst
  rw [List.mem_map]
  constructor
  · rintro ⟨k, hk, e⟩
    obtain ⟨h1, h2⟩ := (h.2 k).1 hk
    obtain ⟨q, hq⟩ := Option.isSome_iff_exists.1 h2
    rw [hq] at e
    simp only [Option.getD_some, Prod.mk.injEq] at e
    obtain ⟨e1, e2⟩ := e
    rw [← e1, hq, e2]
  · intro e
    refine ⟨(n : Int), (h.2 _).2 ⟨by omega, by rw [Int.toNat_natCast, e]; rfl⟩, ?_⟩
    rw [Int.toNat_natCast, e]; rfl
theorem pgLst_nodup {f : Pgs} {ks : List Int} (h : KsOk f ks) : ((pgLst f ks).map Prod.fst).Nodup := by
  unfold pgLst
  rw [List.map_map]
  refine List.pairwise_map.2 (List.Pairwise.imp_of_mem ?_ h.1)
  intro a b ha hb hab
  have h1 := ((h.2 a).1 ha).1
  have h2 := ((h.2 b).1 hb).1
  simp only [Function.comp_apply]
  omega
theorem pgLst_at {f : Pgs} {ks : List Int} {j n : Nat} {p : Pg} (hj : ks[j]? = some (n : Int)) (hf : f n = some p) : (pgLst f ks)[j]? = some (n, p) := by
  unfold pgLst
  rw [List.getElem?_map, hj]
  simp [hf]
theorem hw_step {D : Dsk} {l : List (Nat × Pg)} {j n : Nat} {p : Pg} (h : l[j]? = some (n, p)) : wr1 (hwD D (l.take j)) false ((2 : Int) + (n : Int)).toNat (pgS n p) = hwD D (l.take (j + 1)) := by
  rw [List.take_add_one, h]
  show _ = hwD D (l.take j ++ [(n, p)])
  rw [hwD_snoc, show ((2 : Int) + (n : Int)).toNat = 2 + n from by omega]
  rfl
def Dsk.flb (D : Dsk) : Prop := D.f3 = 1 ∨ (D.cut = true ∧ D.left = 0)
def SetF (D : Dsk) (l : List (Nat × Pg)) (c : Int) (D2 : Dsk) : Prop :=
  (∃ j, (hwD D (l.take j)).bad ∧ c = 11 ∧ D2 = (hwD D (l.take j)).wf) ∨ ((hwD D l).flb ∧ c = 12 ∧ D2 = { hwD D l with f3 := tick (hwD D l).f3 }) ∨ ((hwD D l).fl.bad ∧ c = 11 ∧ D2 = (hwD D l).fl.wf)
theorem PgsIn.small {f : Pgs} {es : List PgE} {clk : Nat} {hq : Hp} (h : PgsIn f es clk hq) (hfb : ∀ n, (f n).isSome = true → n < 1024) : es.length ≤ 1024 := by
  have := len_sub (s := es.map PgE.n) (l := List.range 1024) h.nodup (fun k hk => by
    obtain ⟨e, he, rfl⟩ := List.mem_map.1 hk
    exact List.mem_range.2 (hfb _ (by rw [(h.ent e he).1]; rfl)))
  simpa using this
theorem sdirty_c (ps pd pt md : Nat) (x : Sup) (lp mo : Value) (un : Bool) (f : Pgs) (hq : Hp) (hfb : ∀ n, (f n).isSome = true → n < 1024) : Cn Tryz.prog 51 [.pointer (some ⟨ps, 0, none⟩)] [stB ps pd pt x lp md un mo, pgsA md f hq] (fun v Γ => (∃ ks : List Int, KsOk f ks ∧ Γ = [grow 3 1 v ks.length (ks.map (Value.int .i64)), stB ps pd pt x lp md un mo, pgsA md f hq])) := by
 intro z R w H'; have H : Sep z (stB ps pd pt x lp md un mo :: pgsA md f hq :: R) w := H'
 clear H'; obtain ⟨es, clk, hpg, H'⟩ := H.pgs 1 rfl; clear H; have H := H'.l2; clear H'; have hsz : es.length ≤ 1099511627776 := by have := hpg.small hfb; omega
 refine enter Tryz.func51 rfl 9 Tryz.ntmps51 rfl (k_seq (s_region (s_M 1 rfl rfl (s_end (k_seq (s_region (s_L 4 [10, 0] (mm1 (H.blk 0 rfl) mm0) rfl (by kernel_rfl) rfl (s_C rfl rfl rfl rfl rfl (fun w => Tryz.call91 _ w) (keysP_c _) H rfl ?_)))))))); rintro _ w _ ⟨bb, rfl, rfl⟩ H'; have H := H'.l3; clear H'; have hmm : ∀ h : IE → Nat, (es.map PgE.ie).map h = es.map fun e => h e.ie := fun h => by simp
 refine s_C rfl rfl rfl rfl rfl (fun w => Tryz.call90 _ w) (sortedP_c _ _ _ _ (fun p hp => by obtain ⟨e, he, rfl⟩ := List.mem_map.1 hp; exact hpg.clk e he) (by rw [hmm]; exact hpg.born) (by simp; exact hsz)) H.f2.f1 rfl ?_; rintro v2 w _ ⟨s, hs, rfl⟩ H'; have H := H'.l4; clear H'; have hks : KsOk f ((s.map fun p : IE => p.1).mergeSort (fun x y => decide (x ≤ y))) := hpg.keys hs
 refine s_M 1 rfl rfl (s_end (k_ret (doneL rfl [v2] ⟨rfl, trivial⟩ (v := v2) rfl ?_))); have H' := H.toPgs 2 rfl hpg
 have H := H'.l4; clear H'; exact ⟨[grow 3 1 v2 (((s.map fun p : IE => p.1).mergeSort (fun x y => decide (x ≤ y))).length) (((s.map fun p : IE => p.1).mergeSort (fun x y => decide (x ≤ y))).map (Value.int .i64)), stB ps pd pt x lp md un mo, pgsA md f hq], ⟨_, hks, rfl⟩, H.perm 4 [0, 3, 2] rfl rfl⟩
end Go.Proofs.YtbegkbjigbkljaaGreatDoor
namespace Go.Proofs.YtbegkbjigbkljaaGreatDoor
open Go.RowKit
set_option maxHeartbeats 2000000 in
theorem settle_c (ps pd pt md : Nat) (x : Sup) (lp mo : Value) (un : Bool) (f : Pgs) (hq : Hp) (y : Sup) (D : Dsk) (hfb : ∀ n, (f n).isSome = true → n < 1024) (hfn : ∀ n, (f n).isSome = true → 2 + n < D.n) (hoky : y.Ok (D.n : Int)) (hver : ∀ i, (D.ver i).length ≤ 1000000000000) : Cn Tryz.prog 66 [.pointer (some ⟨ps, 0, none⟩), .agg #[.int .i64 y.gen, .int .i64 y.epoch, .int .i64 y.pages, .int .i64 y.start, .int .i64 y.len, .int .i64 y.head, .int .i64 y.seq]] [stB ps pd pt x lp md un mo, tblA pt, diskA pd D, pgsA md f hq, poolA hq] (fun v Γ => ∃ ks : List Int, KsOk f ks ∧ ((v = .int .i64 0 ∧ Γ = [stB ps pd pt y lp md un mo, tblA pt, diskA pd (svD (hwD D (pgLst f ks)).fl y), pgsA md noPgs hq, poolA hq]) ∨ (∃ (c : Int) (D2 : Dsk), c ≠ 0 ∧ SetF D (pgLst f ks) c D2 ∧ v = .int .i64 c ∧ Γ = [stB ps pd pt x lp md un mo, tblA pt, diskA pd D2, pgsA md f hq, poolA hq]))) := by
 intro z R w H'; have H : Sep z (stB ps pd pt x lp md un mo :: tblA pt :: diskA pd D :: pgsA md f hq :: poolA hq :: R) w := H'
 clear H'; have hn2d := H.says 2 rfl (fun h q => (diskA.ok q).n2)
 refine enter Tryz.func66 rfl 79 Tryz.ntmps66 rfl (k_seq (s_region (s_go rfl rfl rfl (n_box H rfl rfl (cs := [.int .i64 y.gen, .int .i64 y.epoch, .int .i64 y.pages, .int .i64 y.start, .int .i64 y.len, .int .i64 y.head, .int .i64 y.seq]) rfl) ?_))); rintro _ w ⟨b1, rfl, H'⟩; have H := H'.l6; clear H'; refine s_M 1 rfl rfl (s_end (k_seq (k_seq (s_region (s_M 1 rfl rfl (s_C rfl rfl rfl rfl rfl (fun w => Tryz.call51 _ w) (sdirty_c _ _ _ _ _ _ _ _ _ _ hfb) H.f4.f2 rfl ?_)))))); rintro v3 w _ ⟨ks, hks, rfl⟩ H'; have H := H'.l7; clear H'; have sv3 := H.says 0 rfl (fun h q => q.slc)
 have hksm := H.says 0 rfl (fun h q => q.rd.small)
 obtain ⟨ao3, c3, rfl⟩ := sv3; have H : Sep z (grow 3 1 (.slice ao3 ks.length c3) ks.length (ks.map (Value.int .i64)) :: stB ps pd pt x lp md un mo :: pgsA md f hq :: blk b1 [.int .i64 y.gen, .int .i64 y.epoch, .int .i64 y.pages, .int .i64 y.start, .int .i64 y.len, .int .i64 y.head, .int .i64 y.seq] 49 :: tblA pt :: diskA pd D :: poolA hq :: R) w := H
 obtain ⟨es, clk, hpg, H'⟩ := H.pgs 2 rfl; clear H; have H := H'.l7; clear H'; refine s_do rfl rfl rfl (d_len rfl (z := 1) (by kernel_rfl) rfl) (s_M 1 rfl rfl (s_end (k_block ?_))); refine c_loop (σ := Nat) (fun j => [(15, .int .i64 (j : Int)), (0, .pointer (some ⟨ps, 0, none⟩)), (3, .pointer (some ⟨b1, 0, none⟩)), (13, .slice ao3 ks.length c3), (14, .int .i64 (ks.length : Int))])
   (fun j w => Sep z (grow 3 1 (.slice ao3 ks.length c3) ks.length (ks.map (Value.int .i64)) :: stB ps pd pt x lp md un mo :: mapB md (es.map PgE.ie) clk :: blk b1 [.int .i64 y.gen, .int .i64 y.epoch, .int .i64 y.pages, .int .i64 y.start, .int .i64 y.len, .int .i64 y.head, .int .i64 y.seq] 49 :: tblA pt :: diskA pd (hwD D ((pgLst f ks).take j)) :: poolA hq :: R) w ∧ (j ≤ ks.length)) (fun j => ks.length - j) 0
   (fun _ hF => (hF.co rfl (by go_num) (hF.all rfl))) ⟨H, by omega⟩ ?_
 clear H; rintro j w ⟨H', hI⟩; have H := H'.l7; clear H'; have hjn := hI; clear hI
 refine k_seq (s_region (s_M 1 rfl rfl (s_end (k_seq (k_dec rfl (fun h1 => ?_) (fun h1 => ?_))))))
 ·have hjlt : j < ks.length := by omega
  refine k_skip (k_seq (k_block (k_seq (s_region ?_)))); obtain ⟨x, hx⟩ : ∃ x, ks[j]? = some x := ⟨_, List.getElem?_eq_getElem (by omega)⟩; obtain ⟨hx0, hxs⟩ := (hks.2 x).1 (List.mem_of_getElem? hx); obtain ⟨n, rfl⟩ : ∃ n : Nat, x = (n : Int) := ⟨x.toNat, by omega⟩; rw [Int.toNat_natCast] at hxs; obtain ⟨p, pv, hfp, hpok, hpr, hgm⟩ : ∃ (p : Pg) (v : Value), f n = some p ∧ p.Ok ∧ rdH 1 v 240 (p.body.map u8) hq ∧ getM (es.map PgE.ie) (n : Int) = some (.agg #[.int .i64 p.kind, v]) := by
    rcases hpg.get n with ⟨q, _⟩ | q
    · rw [q] at hxs; cases hxs
    · exact q
  have spv : Slc pv 240 := hpr.slc
  have hn := hfb n hxs
  have hn2 := hfn n hxs
  have hat3 := (H.rd 0 rfl (fun h q => q.rd)).at (j := j) (u := .int .i64 (n : Int)) (by simp [hx])
  have hpk := hpok.1
  have hverj : ∀ i, ((hwD D ((pgLst f ks).take j)).ver i).length ≤ 1099511627776 := fun i => by have h1 := hw_len ((pgLst f ks).take j) D i ((pgLst_nodup hks).sublist ((List.take_sublist _ _).map _)); have h2 := hver i; omega
  refine s_do rfl rfl rfl (d_indexE rfl (z := 1) (j := j) (r := j) (by kernel_rfl) rfl rfl rfl (by omega) hat3 (by omega)) (s_do rfl rfl rfl (d_loadE rfl rfl (by kernel_rfl) (here hat3)) (s_M 1 rfl rfl (s_end (k_seq ?_)))); replace H := H.f2.f2; refine a_region (Sep z (stB ps pd pt x lp md un mo :: mapB md (es.map PgE.ie) clk :: R)) 18 rfl (by kernel_rfl) (fun w' x' _ => ?_); have H' := H.ext0 x'; clear x' H; revert H'; generalize w' = w; intro H'
  have H := H'.l7; clear H'; refine a_L [0, 1, 2, 3, 4, 5, 6, 7, 8, 9] [1, 0, 10, 0] (fun _ hx => (mm1 (hx.blk 0 rfl) mm0)) (by exact (H.pick 7 [0, 1] rfl)) rfl (by kernel_rfl) rfl rfl (a_do 10 rfl (by kernel_rfl) (by kernel_rfl) (by kernel_rfl) rfl rfl rfl (d_lookup (e := 65) (zv := .agg #[.int .i64 0, .slice none 0 0]) rfl (by kernel_rfl) (by kernel_rfl) rfl rfl (fun _ hx => hx.bk 1 rfl)) (H.pick 7 [0, 1] rfl) (k_updA 30 (u := (getM (es.map PgE.ie) (n : Int)).getD (.agg #[.int .i64 0, .slice none 0 0])) (v := .agg #[.int .i64 p.kind, pv]) rfl (by rw [hgm]; rfl) (a_do 11 rfl (by kernel_rfl) (by kernel_rfl) (by kernel_rfl) rfl rfl rfl (d_build rfl rfl (out := [.int .i64 (n : Int), .int .i64 p.kind, pv]) (by kernel_rfl)) (H.pick 7 [0, 1] rfl) (a_all [12] (by kernel_rfl) (by simp) (all1 (o_C rfl rfl rfl rfl rfl rfl (fun w => Tryz.call107 _ w) (putPage_c _ _ _ _ p.body _ (fun h q => by rw [hpok.2]; exact hpr.le q)) H.f6.f5 rfl ?_)))))); rintro _ w _ (⟨hbad, rfl, rfl⟩ | ⟨_, pw, rfl, rfl⟩) H'
  ·exact absurd ⟨⟨by omega, by omega⟩, hpok.1, hpok.2⟩ hbad
  ·have H := H'.l8; clear H'; refine a_and (H.pick 8 [3, 4] rfl) (a_L [13, 14, 15, 16, 17] [] (fun _ _ => mm0) (by exact (H.pick 8 [3, 4] rfl)) rfl (by kernel_rfl) rfl rfl (a_done (by kernel_rfl) (k_seq (k_seq (s_region (s_M 2 rfl rfl (k_updA 36 (u := .bool (decide ((0 : Int) ≠ 0))) (v := .bool false) rfl (congrArg Value.bool (by decide)) (s_end (k_false rfl (k_skip (k_seq (s_region (s_L 5 [0, 0] (mm1 (H.blk 3 rfl) mm0) rfl (by kernel_rfl) rfl ?_))))))))))))); refine s_do rfl rfl rfl (d_add64 rfl rfl rfl (r := (2 : Int) + (n : Int)) (by omega) (by omega)) (s_M 1 rfl rfl (s_C rfl rfl rfl rfl rfl (fun w => Tryz.call69 _ w) (write1_c _ _ _ _ _ _ _ (pgS n p) _ (pgS_len hpok) (fun h q => wrC_rd (lo := 0) (n := 256) (c := 256) (ys := pgS n p) q (pgS_len hpok) (by omega) (by omega) (by omega) (by rw [List.drop_zero]; exact List.take_of_length_le (Nat.le_of_eq (pgS_len hpok)))) hverj (by rw [hw_n]; omega)) H.f7 rfl ?_)); rintro _ w _ (⟨hbad, rfl, rfl⟩ | ⟨hbad, rfl, rfl⟩) H'
   ·have H := H'.l8; clear H'; refine s_M 1 rfl rfl (s_end (k_seq (s_region (s_M 2 rfl rfl (k_updA 47 (u := .bool (decide ((11 : Int) ≠ 0))) (v := .bool true) rfl (congrArg Value.bool (by decide)) (s_end (k_true rfl (k_seq (s_region (s_M 2 rfl rfl (s_end (k_ret (doneL rfl [.int .i64 11] ⟨rfl, trivial⟩ (v := .int .i64 11) rfl ?_))))))))))))); have H' := H.toPgs 5 rfl hpg
    have H := H'.l8; clear H'; exact ⟨[stB ps pd pt x lp md un mo, tblA pt, diskA pd ((hwD D ((pgLst f ks).take j)).wf), pgsA md f hq, poolA hq], ⟨ks, hks, .inr ⟨_, _, by decide, .inl ⟨j, hbad, rfl, rfl⟩, rfl, rfl⟩⟩, H.perm 8 [4, 2, 0, 5, 3] rfl rfl⟩
   ·have H := H'.l8; clear H'; refine s_M 1 rfl rfl (s_end (k_seq (s_region (s_M 2 rfl rfl (k_updA 47 (u := .bool (decide ((0 : Int) ≠ 0))) (v := .bool false) rfl (congrArg Value.bool (by decide)) (s_end (k_false rfl (k_skip (s_region (s_do rfl rfl rfl (d_add64 rfl rfl rfl (r := (j : Int) + 1) (by omega) (by omega)) (s_M 1 rfl rfl (s_end ?_)))))))))))); replace H := H.f1.d.f2.f1.f2.f6.f5.f5.f6; intro _ hF; refine ⟨(j + 1), (hF.co rfl (by go_num) (hF.all rfl)), ⟨(by rw [← hw_step (pgLst_at hx hfp)]; exact H), ?_⟩, ?_⟩
    ·omega
    ·omega
 ·obtain rfl : j = ks.length := by omega
  refine k_exit (k_here (k_seq (k_seq ?_))); have htk : (pgLst f ks).take ks.length = pgLst f ks := List.take_of_length_le (by simp only [pgLst, List.length_map]; omega)
  rw [htk] at H; have H : Sep z (grow 3 1 (.slice ao3 ks.length c3) ks.length (ks.map (Value.int .i64)) :: stB ps pd pt x lp md un mo :: mapB md (es.map PgE.ie) clk :: blk b1 [.int .i64 y.gen, .int .i64 y.epoch, .int .i64 y.pages, .int .i64 y.start, .int .i64 y.len, .int .i64 y.head, .int .i64 y.seq] 49 :: tblA pt :: diskA pd (hwD D (pgLst f ks)) :: poolA hq :: R) w := H
  refine s_region (s_L 4 [0, 0] (mm1 (H.blk 1 rfl) mm0) rfl (by kernel_rfl) rfl (s_C rfl rfl rfl rfl rfl (fun w => Tryz.call60 _ w) (flush_c _ _) H.f5 rfl ?_)); rintro _ w _ (⟨hfb_, rfl, rfl⟩ | ⟨hfb_, rfl, rfl⟩) H'
  ·have H := H'.l7; clear H'; refine s_M 1 rfl rfl (s_end (k_seq (s_region (s_M 2 rfl rfl (k_updA 56 (u := .bool (decide ((12 : Int) ≠ 0))) (v := .bool true) rfl (congrArg Value.bool (by decide)) (s_end (k_true rfl (k_seq (s_region (s_M 2 rfl rfl (s_end (k_ret (doneL rfl [.int .i64 12] ⟨rfl, trivial⟩ (v := .int .i64 12) rfl ?_))))))))))))); have H' := H.toPgs 3 rfl hpg
   have H := H'.l7; clear H'; exact ⟨[stB ps pd pt x lp md un mo, tblA pt, diskA pd ({ (hwD D (pgLst f ks)) with f3 := tick (hwD D (pgLst f ks)).f3 }), pgsA md f hq, poolA hq], ⟨ks, hks, .inr ⟨_, _, by decide, .inr (.inl ⟨hfb_, rfl, rfl⟩), rfl, rfl⟩⟩, H.perm 7 [2, 5, 0, 3, 6] rfl rfl⟩
  ·have H := H'.l7; clear H'; refine s_M 1 rfl rfl (s_end (k_seq (s_region (s_M 2 rfl rfl (k_updA 56 (u := .bool (decide ((0 : Int) ≠ 0))) (v := .bool false) rfl (congrArg Value.bool (by decide)) (s_end (k_false rfl (k_skip (k_seq (k_seq ?_)))))))))); replace H := H.f4.f3; refine a_region (Sep z (stB ps pd pt x lp md un mo :: blk b1 [.int .i64 y.gen, .int .i64 y.epoch, .int .i64 y.pages, .int .i64 y.start, .int .i64 y.len, .int .i64 y.head, .int .i64 y.seq] 49 :: R)) 11 rfl (by kernel_rfl) (fun w' x' _ => ?_); have H' := H.ext0 x'; clear x' H; revert H'; generalize w' = w; intro H'
   have H := H'.l7; clear H'; refine a_L [0, 1, 2, 3, 4, 5, 6, 7] [0, 0, 1, 0] (fun _ hx => (mm1 (hx.blk 0 rfl) mm0)) (by exact (H.pick 7 [0, 1] rfl)) rfl (by kernel_rfl) rfl rfl (a_do 8 rfl (by kernel_rfl) (by kernel_rfl) (by kernel_rfl) rfl rfl rfl (d_loadAgg rfl rfl (vs := [.int .i64 y.gen, .int .i64 y.epoch, .int .i64 y.pages, .int .i64 y.start, .int .i64 y.len, .int .i64 y.head, .int .i64 y.seq]) (by kernel_rfl) (fun _ hx => (hx.blk 1 rfl).part 0 7 _ rfl)) (H.pick 7 [0, 1] rfl) (a_all [9] (by kernel_rfl) (by simp) (all1 (o_C rfl rfl rfl rfl rfl rfl (fun w => Tryz.call70 _ w) (save_c _ _ _ y (by show y.Ok ((hwD D (pgLst f ks)).n : Int); rw [hw_n]; exact hoky) (fun i => by show ([] : List (List UInt8)).length ≤ _; simp)) H.f5.f3 rfl ?_)))); rintro _ w _ (⟨hsb, rfl, rfl⟩ | ⟨hsb, rfl, rfl⟩) H'
   ·have H := H'.l7; clear H'; refine a_and (H.pick 7 [2, 3] rfl) (a_L [10] [] (fun _ _ => mm0) (by exact (H.pick 7 [2, 3] rfl)) rfl (by kernel_rfl) rfl rfl (a_done (by kernel_rfl) (k_seq (s_region (s_M 2 rfl rfl (k_updA 69 (u := .bool (decide ((11 : Int) ≠ 0))) (v := .bool true) rfl (congrArg Value.bool (by decide)) (s_end (k_true rfl (k_seq (s_region (s_M 2 rfl rfl (s_end (k_ret ?_))))))))))))); refine doneL rfl [.int .i64 11] ⟨rfl, trivial⟩ (v := .int .i64 11) rfl ?_; have H' := H.toPgs 5 rfl hpg
    have H := H'.l7; clear H'; exact ⟨[stB ps pd pt x lp md un mo, tblA pt, diskA pd (((hwD D (pgLst f ks)).fl).wf), pgsA md f hq, poolA hq], ⟨ks, hks, .inr ⟨_, _, by decide, .inr (.inr ⟨hsb, rfl, rfl⟩), rfl, rfl⟩⟩, H.perm 7 [2, 1, 0, 5, 6] rfl rfl⟩
   ·have H := H'.l7; clear H'; refine a_and (H.pick 7 [2, 3] rfl) (a_L [10] [] (fun _ _ => mm0) (by exact (H.pick 7 [2, 3] rfl)) rfl (by kernel_rfl) rfl rfl (a_done (by kernel_rfl) (k_seq (s_region (s_M 2 rfl rfl (k_updA 69 (u := .bool (decide ((0 : Int) ≠ 0))) (v := .bool false) rfl (congrArg Value.bool (by decide)) (s_end (k_false rfl (k_skip (k_seq (s_region (s_M 1 rfl rfl (s_do rfl rfl rfl (d_loadAgg rfl rfl (vs := [.int .i64 y.gen, .int .i64 y.epoch, .int .i64 y.pages, .int .i64 y.start, .int .i64 y.len, .int .i64 y.head, .int .i64 y.seq]) (by kernel_rfl) (here ((H.blk 3 rfl).part 0 7 _ rfl))) ?_))))))))))))); refine s_Q 2 [2] rfl (by kernel_rfl) (s_put rfl rfl (n_store 2 H rfl rfl rfl rfl (vs := [.int .i64 y.gen, .int .i64 y.epoch, .int .i64 y.pages, .int .i64 y.start, .int .i64 y.len, .int .i64 y.head, .int .i64 y.seq]) rfl (by simp [u8, u32, Value.oneCell']) (by kernel_rfl) (by simp) (out := [.pointer (some ⟨pd, 0, none⟩), .pointer (some ⟨pt, 0, none⟩), .int .i64 y.gen, .int .i64 y.epoch, .int .i64 y.pages, .int .i64 y.start, .int .i64 y.len, .int .i64 y.head, .int .i64 y.seq, lp, .map (some md), .bool un, mo]) rfl) ?_); rintro w H'; have H := H'.l7; clear H'; refine s_end (k_seq (s_region (s_L 4 [10, 0] (mm1 (H.blk 2 rfl) mm0) rfl (by kernel_rfl) rfl (s_go0 rfl rfl (n_clear 5 (e := 65) H rfl rfl (by kernel_rfl) rfl) ?_)))); rintro _ w ⟨rfl, H'⟩; have H := H'.l7; clear H'; refine s_end (k_seq (s_region (s_M 1 rfl rfl (s_end (k_ret (doneL rfl [.int .i64 0] ⟨rfl, trivial⟩ (v := .int .i64 0) rfl ?_)))))); have H' := H.toPgs 5 rfl (PgsIn.none hq clk)
    have H := H'.l7; clear H'; exact ⟨[stB ps pd pt y lp md un mo, tblA pt, diskA pd (svD ((hwD D (pgLst f ks)).fl) y), pgsA md noPgs hq, poolA hq], ⟨ks, hks, .inl ⟨rfl, rfl⟩⟩, H.perm 7 [2, 1, 0, 5, 6] rfl rfl⟩
end Go.Proofs.YtbegkbjigbkljaaGreatDoor
namespace Go.Proofs.YtbegkbjigbkljaaGreatDoor
open Go.RowKit
theorem begin_c (ps pd pt md : Nat) (x : Sup) (lp mv : Value) : Cn Tryz.prog 18 [.pointer (some ⟨ps, 0, none⟩)] [stB ps pd pt x lp md false mv] (fun v Γ => v = .int .i64 0 ∧ ∃ m, Γ = [stB ps pd pt x lp md true (.map (some m)), mapB m [] 0]) := by
 intro z R w H'; have H : Sep z (stB ps pd pt x lp md false mv :: R) w := H'
 clear H'; refine enter Tryz.func18 rfl 14 Tryz.ntmps18 rfl (k_seq (s_region (s_M 1 rfl rfl (s_end (k_seq (k_seq (s_region (s_L 4 [11, 0] (mm1 (H.blk 0 rfl) mm0) rfl (by kernel_rfl) rfl (s_end (k_false rfl (k_skip (k_seq (s_region ?_))))))))))))); refine s_Q 3 [11] rfl (by kernel_rfl) (s_put rfl rfl (n_store 0 H rfl rfl rfl rfl (vs := [.bool true]) rfl (by simp [u8, u32, Value.oneCell']) (by kernel_rfl) (by simp) (out := [.pointer (some ⟨pd, 0, none⟩), .pointer (some ⟨pt, 0, none⟩), .int .i64 x.gen, .int .i64 x.epoch, .int .i64 x.pages, .int .i64 x.start, .int .i64 x.len, .int .i64 x.head, .int .i64 x.seq, lp, .map (some md), .bool true, mv]) rfl) ?_); rintro w H'; have H := H'.l1; clear H'; refine s_end (k_seq (s_region (s_M 1 rfl rfl (s_go rfl rfl rfl (n_makeMap H rfl) ?_)))); rintro _ w ⟨m1, rfl, H'⟩; have H := H'.l2; clear H'; refine s_Q 2 [12] rfl (by kernel_rfl) (s_put rfl rfl (n_store 1 H rfl rfl rfl rfl (vs := [.map (some m1)]) rfl (by simp [u8, u32, Value.oneCell']) (by kernel_rfl) (by simp) (out := [.pointer (some ⟨pd, 0, none⟩), .pointer (some ⟨pt, 0, none⟩), .int .i64 x.gen, .int .i64 x.epoch, .int .i64 x.pages, .int .i64 x.start, .int .i64 x.len, .int .i64 x.head, .int .i64 x.seq, lp, .map (some md), .bool true, .map (some m1)]) rfl) ?_); rintro w H'; have H := H'.l2; clear H'; refine s_end (k_seq (s_region (s_M 1 rfl rfl (s_end (k_ret (doneL rfl [.int .i64 0] ⟨rfl, trivial⟩ (v := .int .i64 0) rfl ?_)))))); exact ⟨[stB ps pd pt x lp md true (.map (some m1)), mapB m1 ([]) 0], ⟨rfl, m1, rfl⟩, H.perm 2 [1, 0] rfl rfl⟩
theorem super_c (ps pd pt md : Nat) (x : Sup) (lp mv : Value) (un : Bool) : Cn Tryz.prog 13 [.pointer (some ⟨ps, 0, none⟩)] [stB ps pd pt x lp md un mv] (fun v Γ => v = .agg #[.int .i64 x.gen, .int .i64 x.epoch, .int .i64 x.pages, .int .i64 x.start, .int .i64 x.len, .int .i64 x.head, .int .i64 x.seq] ∧ Γ = [stB ps pd pt x lp md un mv]) := by
 intro z R w H'; have H : Sep z (stB ps pd pt x lp md un mv :: R) w := H'
 clear H'; refine enter Tryz.func13 rfl 7 Tryz.ntmps13 rfl (k_seq (s_region (s_go rfl rfl rfl (n_alloc (P := Tryz.prog) H rfl (zs := [.int .i64 0, .int .i64 0, .int .i64 0, .int .i64 0, .int .i64 0, .int .i64 0, .int .i64 0]) (by kernel_rfl)) ?_))); rintro _ w ⟨b1, rfl, H'⟩; have H := H'.l2; clear H'; refine s_end (k_seq (s_region (s_Q 3 [2] rfl (by kernel_rfl) (s_do rfl rfl rfl (d_loadAgg rfl rfl (vs := [.int .i64 x.gen, .int .i64 x.epoch, .int .i64 x.pages, .int .i64 x.start, .int .i64 x.len, .int .i64 x.head, .int .i64 x.seq]) (by kernel_rfl) (here ((H.blk 1 rfl).part 2 7 _ rfl))) (s_put rfl rfl (n_store 0 H rfl rfl rfl rfl (vs := [.int .i64 x.gen, .int .i64 x.epoch, .int .i64 x.pages, .int .i64 x.start, .int .i64 x.len, .int .i64 x.head, .int .i64 x.seq]) rfl (by simp [u8, u32, Value.oneCell']) (by kernel_rfl) (by simp) (out := [.int .i64 x.gen, .int .i64 x.epoch, .int .i64 x.pages, .int .i64 x.start, .int .i64 x.len, .int .i64 x.head, .int .i64 x.seq]) rfl) ?_))))); rintro w H'; have H := H'.l2; clear H'; refine s_end (k_ret (doneL rfl [.agg #[.int .i64 x.gen, .int .i64 x.epoch, .int .i64 x.pages, .int .i64 x.start, .int .i64 x.len, .int .i64 x.head, .int .i64 x.seq]] ⟨⟨_, _, rfl, run_loadBlk (by kernel_rfl) (H.blk 0 rfl) (vs := [.int .i64 x.gen, .int .i64 x.epoch, .int .i64 x.pages, .int .i64 x.start, .int .i64 x.len, .int .i64 x.head, .int .i64 x.seq]) rfl⟩, trivial⟩ (v := .agg #[.int .i64 x.gen, .int .i64 x.epoch, .int .i64 x.pages, .int .i64 x.start, .int .i64 x.len, .int .i64 x.head, .int .i64 x.seq]) rfl ?_))
 exact ⟨[stB ps pd pt x lp md un mv], ⟨rfl, rfl⟩, H.perm 2 [1] rfl rfl⟩
theorem copied_c (p : Pg) (bv : Value) (A : Asn) (hA0 : ∀ h, A h → rdH 1 bv 240 (p.body.map u8) h) (hp : p.Ok) : Cn Tryz.prog 54 [.agg #[.int .i64 p.kind, bv]] [A] (fun v Γ => ∃ v1, v = .agg #[.int .i64 p.kind, v1] ∧ Γ = [grow 5 1 v1 240 (p.body.map u8), A]) := by
 intro z R w H'; have H : Sep z (A :: R) w := H'
 clear H'; obtain ⟨b, o, c, rfl⟩ := H.says 0 rfl (fun h q => (hA0 h q).sl (by simp [hp.2])); have hA := hA0
 refine enter Tryz.func54 rfl 9 Tryz.ntmps54 rfl (k_seq (s_region (s_go rfl rfl rfl (n_box H rfl rfl (cs := [.int .i64 p.kind, .slice (some ⟨b, o, none⟩) 240 c]) rfl) ?_))); rintro _ w ⟨b1, rfl, H'⟩; have H := H'.l2; clear H'; refine s_go rfl rfl rfl (n_alloc (P := Tryz.prog) H rfl (zs := [.int .i64 0, .slice none 0 0]) (by kernel_rfl)) ?_; rintro _ w ⟨b2, rfl, H'⟩; have H := H'.l3; clear H'; refine s_end (k_seq ?_); replace H := H.f1.f2; refine a_region (Sep z (A :: blk b1 [.int .i64 p.kind, .slice (some ⟨b, o, none⟩) 240 c] 65 :: R)) 7 rfl (by kernel_rfl) (fun w' x' _ => ?_); have H' := H.ext0 x'; clear x' H; revert H'; generalize w' = w; intro H'
 have H := H'.l3; clear H'; refine a_L [0, 1, 2, 3] [0, 0, 1, 0] (fun _ hx => (mm1 (hx.blk 1 rfl) mm0)) (by exact (H.pick 3 [0, 1] rfl)) rfl (by kernel_rfl) rfl rfl (a_all [4] (by kernel_rfl) (by simp) (all1 (o_C rfl rfl rfl rfl rfl rfl (fun w => Tryz.call93 _ w) (sclone_c _ _ 240 _ p.body _ hA (by omega)) H rfl ?_))); rintro v1 w _ ⟨_, rfl, rfl⟩ H'; have H := H'.l4; clear H'; obtain ⟨ao1, c1, rfl⟩ := H.says 0 rfl (fun h q => q.slc); have H : Sep z (grow 5 1 (.slice ao1 240 c1) 240 (p.body.map u8) :: A :: blk b1 [.int .i64 p.kind, .slice (some ⟨b, o, none⟩) 240 c] 65 :: blk b2 [.int .i64 0, .slice none 0 0] 65 :: R) w := H
 refine a_and (H.pick 4 [1, 2] rfl) (a_do 5 rfl (by kernel_rfl) (by kernel_rfl) (by kernel_rfl) rfl rfl rfl (d_build rfl rfl (out := [.int .i64 p.kind, .slice ao1 240 c1]) (by kernel_rfl)) (H.pick 4 [1, 2] rfl) (a_all [6] (by kernel_rfl) (by simp) (all1 (o_put rfl rfl rfl (n_store 3 H rfl rfl rfl rfl (vs := [.int .i64 p.kind, .slice ao1 240 c1]) rfl (by simp [u8, u32, Value.oneCell']) (by kernel_rfl) (by simp) (out := [.int .i64 p.kind, .slice ao1 240 c1]) rfl) ?_)))); rintro w H'; have H := H'.l4; clear H'; refine a_and (H.pick 4 [1, 2] rfl) (a_done (by kernel_rfl) (k_ret (doneL rfl [.agg #[.int .i64 p.kind, .slice ao1 240 c1]] ⟨⟨_, _, rfl, run_loadBlk (by kernel_rfl) (H.blk 3 rfl) (vs := [.int .i64 p.kind, .slice ao1 240 c1]) rfl⟩, trivial⟩ (v := .agg #[.int .i64 p.kind, .slice ao1 240 c1]) rfl ?_))); exact ⟨[grow 5 1 (.slice ao1 240 c1) 240 (p.body.map u8), A], ⟨_, rfl, rfl⟩, H.perm 4 [0, 1] rfl rfl⟩
end Go.Proofs.YtbegkbjigbkljaaGreatDoor
namespace Go.Proofs.YtbegkbjigbkljaaGreatDoor
open Go.RowKit
set_option maxHeartbeats 2000000 in
theorem sreadN_c (ps pd pt md : Nat) (x : Sup) (lp : Value) (un : Bool) (f : Pgs) (hq : Hp) (D : Dsk) (n : Nat) (hn : (n : Int) < x.pages) (hf1 : D.f1 = 0) (hok : x.Ok (D.n : Int)) (q b0 : Pg) (hqe : q = (f n).getD b0) (hB : f n = none → HomeP (D.cont (2 + n)) n b0) : Cn Tryz.prog 22 [.pointer (some ⟨ps, 0, none⟩), .int .i64 (n : Int)] [stB ps pd pt x lp md un (.map none), tblA pt, diskA pd D, pgsA md f hq, poolA hq] (fun v Γ => (q = noPg ∧ v = .tuple #[.agg #[.int .i64 0, .slice none 0 0], .int .i64 0] ∧ Γ = [stB ps pd pt x lp md un (.map none), tblA pt, diskA pd D, pgsA md f hq, poolA hq]) ∨ (q.Ok ∧ ∃ v1, v = .tuple #[.agg #[.int .i64 q.kind, v1], .int .i64 0] ∧ Γ = [grow 5 1 v1 240 (q.body.map u8), stB ps pd pt x lp md un (.map none), tblA pt, diskA pd D, pgsA md f hq, poolA hq])) := by
 intro z R w H'; have H : Sep z (stB ps pd pt x lp md un (.map none) :: tblA pt :: diskA pd D :: pgsA md f hq :: poolA hq :: R) w := H'
 clear H'; have hn2d := H.says 2 rfl (fun h q => (diskA.ok q).n2)
 have hk2 := hok.2
 obtain ⟨es, clk, hpg, H'⟩ := H.pgs 3 rfl; clear H; have H := H'.l5; clear H'; refine enter Tryz.func22 rfl 78 Tryz.ntmps22 rfl (k_seq (s_region (s_go rfl rfl rfl (n_alloc (P := Tryz.prog) H rfl (zs := [.int .i64 0, .slice none 0 0]) (by kernel_rfl)) ?_))); rintro _ w ⟨b1, rfl, H'⟩; have H := H'.l6; clear H'; refine s_M 1 rfl rfl (s_end (k_seq (k_seq (s_region (s_M 3 rfl rfl (s_part 16 rfl (fun h1 => ?_) (fun h1 => ?_)))))))
 ·(exfalso; omega)
 ·refine s_L 8 [2, 4, 0] (mm1 (H.blk 1 rfl) mm0) rfl (by kernel_rfl) rfl (s_end (k_dec rfl (fun h2 => ?_) (fun h2 => ?_)))
  ·(exfalso; omega)
  ·refine k_skip (k_seq (k_seq (s_region (s_L 5 [12, 0] (mm1 (H.blk 1 rfl) mm0) rfl (by kernel_rfl) rfl (s_do rfl rfl rfl (d_lookup2N (e := 65) (zv := .agg #[.int .i64 0, .slice none 0 0]) rfl (by kernel_rfl) (by kernel_rfl) rfl rfl) (s_M 3 rfl rfl (s_go rfl rfl rfl (n_alloc (P := Tryz.prog) H rfl (zs := [.int .i64 0, .slice none 0 0]) (by kernel_rfl)) ?_))))))); rintro _ w ⟨b2, rfl, H'⟩; have H := H'.l7; clear H'; refine s_put rfl rfl (n_store 0 H rfl rfl rfl rfl (vs := [.int .i64 0, .slice none 0 0]) rfl (by simp [u8, u32, Value.oneCell']) (by kernel_rfl) (by simp) (out := [.int .i64 0, .slice none 0 0]) rfl) ?_; rintro w H'; have H := H'.l7; clear H'; refine s_M 1 rfl rfl (s_end (k_seq (s_region (s_M 1 rfl rfl (s_end (k_false rfl (k_skip (k_seq (k_seq (s_region (s_L 5 [10, 0] (mm1 (H.blk 2 rfl) mm0) rfl (by kernel_rfl) rfl ?_))))))))))); rcases hpg.get n with ⟨hf, hg⟩ | ⟨p, pv, hf, hpok, hpr, hg⟩
   ·refine s_do rfl rfl rfl (d_lookup2 (e := 65) (zv := .agg #[.int .i64 0, .slice none 0 0]) rfl (by kernel_rfl) (by kernel_rfl) rfl rfl (here (H.bk 5 rfl))) (k_updA 44 (u := .tuple #[(getM (es.map PgE.ie) (n : Int)).getD (.agg #[.int .i64 0, .slice none 0 0]), .bool (hasM (es.map PgE.ie) (n : Int))]) (v := .tuple #[.agg #[.int .i64 0, .slice none 0 0], .bool false]) rfl (by simp [hasM, hg]) (s_M 3 rfl rfl (s_go rfl rfl rfl (n_alloc (P := Tryz.prog) H rfl (zs := [.int .i64 0, .slice none 0 0]) (by kernel_rfl)) ?_))); rintro _ w ⟨b3, rfl, H'⟩; have H := H'.l8; clear H'; refine s_put rfl rfl (n_store 0 H rfl rfl rfl rfl (vs := [.int .i64 0, .slice none 0 0]) rfl (by simp [u8, u32, Value.oneCell']) (by kernel_rfl) (by simp) (out := [.int .i64 0, .slice none 0 0]) rfl) ?_; rintro w H'; have H := H'.l8; clear H'; refine s_M 1 rfl rfl (s_end (k_seq (s_region (s_M 1 rfl rfl (s_end (k_false rfl (k_skip (k_seq (s_region (s_L 5 [0, 0] (mm1 (H.blk 3 rfl) mm0) rfl (by kernel_rfl) rfl (s_do rfl rfl rfl (d_add64 rfl rfl rfl (r := (2 : Int) + (n : Int)) (by omega) (by omega)) (s_C rfl rfl rfl rfl rfl (fun w => Tryz.call58 _ w) (read_c _ _ _) H.f5 rfl ?_)))))))))))); rintro _ w _ (⟨hx, _, _⟩ | ⟨_, hx, _, _⟩ | ⟨_, _, gb, cap, rest, rfl, ⟨cg, cc, cl⟩, rfl⟩) H'
    ·exact absurd ⟨by omega, by omega⟩ hx
    ·(rw [hf1] at hx; cases hx)
    ·rw [diskA.f1 hf1, show ((2 : Int) + (n : Int)).toNat = 2 + n from by omega] at H'; have H := H'.l9; clear H'; refine s_M 5 rfl rfl (s_end (k_seq (k_seq (s_region (s_M 2 rfl rfl (k_updA 61 (u := .bool (decide ((0 : Int) ≠ 0))) (v := .bool false) rfl (congrArg Value.bool (by decide)) (s_end (k_false rfl (k_skip (k_seq (s_region (s_L 6 [1, 0] (mm1 (H.blk 5 rfl) mm0) rfl (by kernel_rfl) rfl ?_)))))))))))); rcases hB (by simp_all) with ⟨hz, rfl⟩ | ⟨hbok, hbs⟩
     ·refine s_C rfl rfl rfl rfl rfl (fun w => Tryz.call59 _ w) (getPageZ_c _ _ _ _ (D.cont (2 + n)) _ (fun h q => blk_sec q (by rw [hz]; first | rfl | exact pgS_len hbok) ⟨cg, cc, cl⟩) n hz) H.f6 rfl ?_; rintro _ w _ ⟨rfl, rfl⟩ H'; have H := H'.l9; clear H'; refine s_M 3 rfl rfl (s_go rfl rfl rfl (n_alloc (P := Tryz.prog) H rfl (zs := [.int .i64 0, .slice none 0 0]) (by kernel_rfl)) ?_); rintro _ w ⟨b4, rfl, H'⟩; have H := H'.l10; clear H'; refine s_put rfl rfl (n_store 0 H rfl rfl rfl rfl (vs := [.int .i64 0, .slice none 0 0]) rfl (by simp [u8, u32, Value.oneCell']) (by kernel_rfl) (by simp) (out := [.int .i64 0, .slice none 0 0]) rfl) ?_; rintro w H'; have H := H'.l10; clear H'; refine s_M 1 rfl rfl (s_end (k_seq (k_seq (s_region (s_M 2 rfl rfl (s_end (k_false rfl (k_skip (k_seq (s_region (s_do rfl rfl rfl (d_loadAgg rfl rfl (vs := [.int .i64 0, .slice none 0 0]) (by kernel_rfl) (here ((H.blk 0 rfl).part 0 2 _ rfl))) (s_put rfl rfl (n_store 6 H rfl rfl rfl rfl (vs := [.int .i64 0, .slice none 0 0]) rfl (by simp [u8, u32, Value.oneCell']) (by kernel_rfl) (by simp) (out := [.int .i64 0, .slice none 0 0]) rfl) ?_)))))))))))); rintro w H'; have H := H'.l10; clear H'; refine s_M 1 rfl rfl (s_end (k_ret (doneL rfl [.agg #[.int .i64 0, .slice none 0 0], .int .i64 0] ⟨⟨_, _, rfl, run_loadBlk (by kernel_rfl) (H.blk 6 rfl) (vs := [.int .i64 0, .slice none 0 0]) rfl⟩, ⟨rfl, trivial⟩⟩ (v := .tuple #[.agg #[.int .i64 0, .slice none 0 0], .int .i64 0]) rfl ?_))); have H' := H.toPgs 8 rfl hpg
      have H := H'.l10; clear H'; exact ⟨[stB ps pd pt x lp md un (.map none), tblA pt, diskA pd D, pgsA md f hq, poolA hq], .inl ⟨by first | (rw [hqe]; simp_all; done) | (simp_all; done), rfl, rfl⟩, H.perm 10 [7, 1, 3, 8, 9] rfl rfl⟩
     ·refine s_C rfl rfl rfl rfl rfl (fun w => Tryz.call59 _ w) (getPage_c _ _ _ _ (D.cont (2 + n)) _ (fun h q => blk_sec q (by rw [hbs]; first | rfl | exact pgS_len hbok) ⟨cg, cc, cl⟩) n b0 hbok (by omega) hbs) H.f6 rfl ?_; rintro _ w _ ⟨v1, rfl, rfl⟩ H'; have H := H'.l10; clear H'; have sv1 := H.says 0 rfl (fun h q => q.slc)
      refine s_M 3 rfl rfl (s_go rfl rfl rfl (n_alloc (P := Tryz.prog) H rfl (zs := [.int .i64 0, .slice none 0 0]) (by kernel_rfl)) ?_); rintro _ w ⟨b5, rfl, H'⟩; have H := H'.l11; clear H'; refine s_put rfl rfl (n_store 0 H rfl rfl rfl rfl (vs := [.int .i64 b0.kind, v1]) rfl (one_cons rfl (one_cons sv1.one one_nil)) (by kernel_rfl) (by simp) (out := [.int .i64 b0.kind, v1]) rfl) ?_; rintro w H'; have H := H'.l11; clear H'; refine s_M 1 rfl rfl (s_end (k_seq (k_seq (s_region (s_M 2 rfl rfl (s_end (k_false rfl (k_skip (k_seq (s_region (s_do rfl rfl rfl (d_loadAgg rfl rfl (vs := [.int .i64 b0.kind, v1]) (by kernel_rfl) (here ((H.blk 0 rfl).part 0 2 _ rfl))) (s_put rfl rfl (n_store 7 H rfl rfl rfl rfl (vs := [.int .i64 b0.kind, v1]) rfl (one_cons rfl (one_cons sv1.one one_nil)) (by kernel_rfl) (by simp) (out := [.int .i64 b0.kind, v1]) rfl) ?_)))))))))))); rintro w H'; have H := H'.l11; clear H'; refine s_M 1 rfl rfl (s_end (k_ret (doneL rfl [.agg #[.int .i64 b0.kind, v1], .int .i64 0] ⟨⟨_, _, rfl, run_loadBlk (by kernel_rfl) (H.blk 7 rfl) (vs := [.int .i64 b0.kind, v1]) rfl⟩, ⟨rfl, trivial⟩⟩ (v := .tuple #[.agg #[.int .i64 b0.kind, v1], .int .i64 0]) rfl ?_))); have H' := H.toPgs 9 rfl hpg
      have H := H'.l11; clear H'; obtain rfl : q = b0 := by rw [hqe]; simp_all
      exact ⟨[grow 5 1 v1 240 (q.body.map u8), stB ps pd pt x lp md un (.map none), tblA pt, diskA pd D, pgsA md f hq, poolA hq], .inr ⟨by first | exact hpok | exact hpoko | exact hbok, _, rfl, rfl⟩, H.perm 11 [1, 8, 2, 4, 9, 10] rfl rfl⟩
   ·have hpk := hpok.1
    have spv : Slc pv 240 := hpr.slc
    refine s_do rfl rfl rfl (d_lookup2 (e := 65) (zv := .agg #[.int .i64 0, .slice none 0 0]) rfl (by kernel_rfl) (by kernel_rfl) rfl rfl (here (H.bk 5 rfl))) (k_updA 44 (u := .tuple #[(getM (es.map PgE.ie) (n : Int)).getD (.agg #[.int .i64 0, .slice none 0 0]), .bool (hasM (es.map PgE.ie) (n : Int))]) (v := .tuple #[.agg #[.int .i64 p.kind, pv], .bool true]) rfl (by simp [hasM, hg]) (s_M 3 rfl rfl (s_go rfl rfl rfl (n_alloc (P := Tryz.prog) H rfl (zs := [.int .i64 0, .slice none 0 0]) (by kernel_rfl)) ?_))); rintro _ w ⟨b6, rfl, H'⟩; have H := H'.l8; clear H'; refine s_put rfl rfl (n_store 0 H rfl rfl rfl rfl (vs := [.int .i64 p.kind, pv]) rfl (one_cons rfl (one_cons spv.one one_nil)) (by kernel_rfl) (by simp) (out := [.int .i64 p.kind, pv]) rfl) ?_; rintro w H'; have H := H'.l8; clear H'; refine s_M 1 rfl rfl (s_end (k_seq (s_region (s_M 1 rfl rfl (s_end (k_true rfl (k_seq (s_region (s_do rfl rfl rfl (d_loadAgg rfl rfl (vs := [.int .i64 p.kind, pv]) (by kernel_rfl) (here ((H.blk 0 rfl).part 0 2 _ rfl))) (s_C rfl rfl rfl rfl rfl (fun w => Tryz.call54 _ w) (copied_c p pv _ (fun h q => hpr.le q) hpok) H.f7 rfl ?_)))))))))); rintro _ w _ ⟨v1, rfl, rfl⟩ H'; have H := H'.l9; clear H'; have sv1 := H.says 0 rfl (fun h q => q.slc)
    refine s_put rfl rfl (n_store 4 H rfl rfl rfl rfl (vs := [.int .i64 p.kind, v1]) rfl (one_cons rfl (one_cons sv1.one one_nil)) (by kernel_rfl) (by simp) (out := [.int .i64 p.kind, v1]) rfl) ?_; rintro w H'; have H := H'.l9; clear H'; refine s_M 1 rfl rfl (s_end (k_ret (doneL rfl [.agg #[.int .i64 p.kind, v1], .int .i64 0] ⟨⟨_, _, rfl, run_loadBlk (by kernel_rfl) (H.blk 4 rfl) (vs := [.int .i64 p.kind, v1]) rfl⟩, ⟨rfl, trivial⟩⟩ (v := .tuple #[.agg #[.int .i64 p.kind, v1], .int .i64 0]) rfl ?_))); have H' := H.toPgs 8 rfl hpg
    have H := H'.l9; clear H'; obtain rfl : q = p := by rw [hqe]; simp_all
    exact ⟨[grow 5 1 v1 240 (q.body.map u8), stB ps pd pt x lp md un (.map none), tblA pt, diskA pd D, pgsA md f hq, poolA hq], .inr ⟨by first | exact hpok | exact hpoko | exact hbok, _, rfl, rfl⟩, H.perm 9 [0, 5, 6, 7, 8, 1] rfl rfl⟩
set_option maxHeartbeats 2000000 in
theorem sreadO_c (ps pd pt md mo : Nat) (x : Sup) (lp : Value) (un : Bool) (f g : Pgs) (k : Nat) (hq : Hp) (D : Dsk) (n : Nat) (hn : (n : Int) < x.pages) (hf1 : D.f1 = 0) (hok : x.Ok (D.n : Int)) (q b0 : Pg) (hqe : q = ((g n).or (f n)).getD b0) (hB : (g n).or (f n) = none → HomeP (D.cont (2 + n)) n b0) : Cn Tryz.prog 22 [.pointer (some ⟨ps, 0, none⟩), .int .i64 (n : Int)] [stB ps pd pt x lp md un (.map (some mo)), tblA pt, diskA pd D, pgsA md f hq, pgsC mo g k hq, poolA hq] (fun v Γ => (q = noPg ∧ v = .tuple #[.agg #[.int .i64 0, .slice none 0 0], .int .i64 0] ∧ Γ = [stB ps pd pt x lp md un (.map (some mo)), tblA pt, diskA pd D, pgsA md f hq, pgsC mo g k hq, poolA hq]) ∨ (q.Ok ∧ ∃ v1, v = .tuple #[.agg #[.int .i64 q.kind, v1], .int .i64 0] ∧ Γ = [grow 5 1 v1 240 (q.body.map u8), stB ps pd pt x lp md un (.map (some mo)), tblA pt, diskA pd D, pgsA md f hq, pgsC mo g k hq, poolA hq])) := by
 intro z R w H'; have H : Sep z (stB ps pd pt x lp md un (.map (some mo)) :: tblA pt :: diskA pd D :: pgsA md f hq :: pgsC mo g k hq :: poolA hq :: R) w := H'
 clear H'; have hn2d := H.says 2 rfl (fun h q => (diskA.ok q).n2)
 have hk2 := hok.2
 obtain ⟨es, clk, hpg, H'⟩ := H.pgs 3 rfl; clear H; have H := H'.l6; clear H'; obtain ⟨eso, clko, hpgo, hcno, H'⟩ := H.pgsc 4 rfl; clear H; have H := H'.l6; clear H'; refine enter Tryz.func22 rfl 78 Tryz.ntmps22 rfl (k_seq (s_region (s_go rfl rfl rfl (n_alloc (P := Tryz.prog) H rfl (zs := [.int .i64 0, .slice none 0 0]) (by kernel_rfl)) ?_))); rintro _ w ⟨b1, rfl, H'⟩; have H := H'.l7; clear H'; refine s_M 1 rfl rfl (s_end (k_seq (k_seq (s_region (s_M 3 rfl rfl (s_part 16 rfl (fun h1 => ?_) (fun h1 => ?_)))))))
 ·(exfalso; omega)
 ·refine s_L 8 [2, 4, 0] (mm1 (H.blk 1 rfl) mm0) rfl (by kernel_rfl) rfl (s_end (k_dec rfl (fun h2 => ?_) (fun h2 => ?_)))
  ·(exfalso; omega)
  ·refine k_skip (k_seq (k_seq (s_region (s_L 5 [12, 0] (mm1 (H.blk 1 rfl) mm0) rfl (by kernel_rfl) rfl ?_)))); rcases hpgo.get n with ⟨hfo, hgo⟩ | ⟨po, pvo, hfo, hpoko, hpro, hgo⟩
   ·refine s_do rfl rfl rfl (d_lookup2 (e := 65) (zv := .agg #[.int .i64 0, .slice none 0 0]) rfl (by kernel_rfl) (by kernel_rfl) rfl rfl (here (H.bk 5 rfl))) (k_updA 32 (u := .tuple #[(getM (eso.map PgE.ie) (n : Int)).getD (.agg #[.int .i64 0, .slice none 0 0]), .bool (hasM (eso.map PgE.ie) (n : Int))]) (v := .tuple #[.agg #[.int .i64 0, .slice none 0 0], .bool false]) rfl (by simp [hasM, hgo]) (s_M 3 rfl rfl (s_go rfl rfl rfl (n_alloc (P := Tryz.prog) H rfl (zs := [.int .i64 0, .slice none 0 0]) (by kernel_rfl)) ?_))); rintro _ w ⟨b2, rfl, H'⟩; have H := H'.l8; clear H'; refine s_put rfl rfl (n_store 0 H rfl rfl rfl rfl (vs := [.int .i64 0, .slice none 0 0]) rfl (by simp [u8, u32, Value.oneCell']) (by kernel_rfl) (by simp) (out := [.int .i64 0, .slice none 0 0]) rfl) ?_; rintro w H'; have H := H'.l8; clear H'; refine s_M 1 rfl rfl (s_end (k_seq (s_region (s_M 1 rfl rfl (s_end (k_false rfl (k_skip (k_seq (k_seq (s_region (s_L 5 [10, 0] (mm1 (H.blk 2 rfl) mm0) rfl (by kernel_rfl) rfl ?_))))))))))); rcases hpg.get n with ⟨hf, hg⟩ | ⟨p, pv, hf, hpok, hpr, hg⟩
    ·refine s_do rfl rfl rfl (d_lookup2 (e := 65) (zv := .agg #[.int .i64 0, .slice none 0 0]) rfl (by kernel_rfl) (by kernel_rfl) rfl rfl (here (H.bk 5 rfl))) (k_updA 44 (u := .tuple #[(getM (es.map PgE.ie) (n : Int)).getD (.agg #[.int .i64 0, .slice none 0 0]), .bool (hasM (es.map PgE.ie) (n : Int))]) (v := .tuple #[.agg #[.int .i64 0, .slice none 0 0], .bool false]) rfl (by simp [hasM, hg]) (s_M 3 rfl rfl (s_go rfl rfl rfl (n_alloc (P := Tryz.prog) H rfl (zs := [.int .i64 0, .slice none 0 0]) (by kernel_rfl)) ?_))); rintro _ w ⟨b3, rfl, H'⟩; have H := H'.l9; clear H'; refine s_put rfl rfl (n_store 0 H rfl rfl rfl rfl (vs := [.int .i64 0, .slice none 0 0]) rfl (by simp [u8, u32, Value.oneCell']) (by kernel_rfl) (by simp) (out := [.int .i64 0, .slice none 0 0]) rfl) ?_; rintro w H'; have H := H'.l9; clear H'; refine s_M 1 rfl rfl (s_end (k_seq (s_region (s_M 1 rfl rfl (s_end (k_false rfl (k_skip (k_seq (s_region (s_L 5 [0, 0] (mm1 (H.blk 3 rfl) mm0) rfl (by kernel_rfl) rfl (s_do rfl rfl rfl (d_add64 rfl rfl rfl (r := (2 : Int) + (n : Int)) (by omega) (by omega)) (s_C rfl rfl rfl rfl rfl (fun w => Tryz.call58 _ w) (read_c _ _ _) H.f5 rfl ?_)))))))))))); rintro _ w _ (⟨hx, _, _⟩ | ⟨_, hx, _, _⟩ | ⟨_, _, gb, cap, rest, rfl, ⟨cg, cc, cl⟩, rfl⟩) H'
     ·exact absurd ⟨by omega, by omega⟩ hx
     ·(rw [hf1] at hx; cases hx)
     ·rw [diskA.f1 hf1, show ((2 : Int) + (n : Int)).toNat = 2 + n from by omega] at H'; have H := H'.l10; clear H'; refine s_M 5 rfl rfl (s_end (k_seq (k_seq (s_region (s_M 2 rfl rfl (k_updA 61 (u := .bool (decide ((0 : Int) ≠ 0))) (v := .bool false) rfl (congrArg Value.bool (by decide)) (s_end (k_false rfl (k_skip (k_seq (s_region (s_L 6 [1, 0] (mm1 (H.blk 5 rfl) mm0) rfl (by kernel_rfl) rfl ?_)))))))))))); rcases hB (by simp_all) with ⟨hz, rfl⟩ | ⟨hbok, hbs⟩
      ·refine s_C rfl rfl rfl rfl rfl (fun w => Tryz.call59 _ w) (getPageZ_c _ _ _ _ (D.cont (2 + n)) _ (fun h q => blk_sec q (by rw [hz]; first | rfl | exact pgS_len hbok) ⟨cg, cc, cl⟩) n hz) H.f6 rfl ?_; rintro _ w _ ⟨rfl, rfl⟩ H'; have H := H'.l10; clear H'; refine s_M 3 rfl rfl (s_go rfl rfl rfl (n_alloc (P := Tryz.prog) H rfl (zs := [.int .i64 0, .slice none 0 0]) (by kernel_rfl)) ?_); rintro _ w ⟨b4, rfl, H'⟩; have H := H'.l11; clear H'; refine s_put rfl rfl (n_store 0 H rfl rfl rfl rfl (vs := [.int .i64 0, .slice none 0 0]) rfl (by simp [u8, u32, Value.oneCell']) (by kernel_rfl) (by simp) (out := [.int .i64 0, .slice none 0 0]) rfl) ?_; rintro w H'; have H := H'.l11; clear H'; refine s_M 1 rfl rfl (s_end (k_seq (k_seq (s_region (s_M 2 rfl rfl (s_end (k_false rfl (k_skip (k_seq (s_region (s_do rfl rfl rfl (d_loadAgg rfl rfl (vs := [.int .i64 0, .slice none 0 0]) (by kernel_rfl) (here ((H.blk 0 rfl).part 0 2 _ rfl))) (s_put rfl rfl (n_store 6 H rfl rfl rfl rfl (vs := [.int .i64 0, .slice none 0 0]) rfl (by simp [u8, u32, Value.oneCell']) (by kernel_rfl) (by simp) (out := [.int .i64 0, .slice none 0 0]) rfl) ?_)))))))))))); rintro w H'; have H := H'.l11; clear H'; refine s_M 1 rfl rfl (s_end (k_ret (doneL rfl [.agg #[.int .i64 0, .slice none 0 0], .int .i64 0] ⟨⟨_, _, rfl, run_loadBlk (by kernel_rfl) (H.blk 6 rfl) (vs := [.int .i64 0, .slice none 0 0]) rfl⟩, ⟨rfl, trivial⟩⟩ (v := .tuple #[.agg #[.int .i64 0, .slice none 0 0], .int .i64 0]) rfl ?_))); have H' := H.toPgs 8 rfl hpg
       have H := H'.l11; clear H'; have H' := H.toPgsc 9 rfl hpgo hcno
       have H := H'.l11; clear H'; exact ⟨[stB ps pd pt x lp md un (.map (some mo)), tblA pt, diskA pd D, pgsA md f hq, pgsC mo g k hq, poolA hq], .inl ⟨by first | (rw [hqe]; simp_all; done) | (simp_all; done), rfl, rfl⟩, H.perm 11 [7, 1, 3, 8, 9, 10] rfl rfl⟩
      ·refine s_C rfl rfl rfl rfl rfl (fun w => Tryz.call59 _ w) (getPage_c _ _ _ _ (D.cont (2 + n)) _ (fun h q => blk_sec q (by rw [hbs]; first | rfl | exact pgS_len hbok) ⟨cg, cc, cl⟩) n b0 hbok (by omega) hbs) H.f6 rfl ?_; rintro _ w _ ⟨v1, rfl, rfl⟩ H'; have H := H'.l11; clear H'; have sv1 := H.says 0 rfl (fun h q => q.slc)
       refine s_M 3 rfl rfl (s_go rfl rfl rfl (n_alloc (P := Tryz.prog) H rfl (zs := [.int .i64 0, .slice none 0 0]) (by kernel_rfl)) ?_); rintro _ w ⟨b5, rfl, H'⟩; have H := H'.l12; clear H'; refine s_put rfl rfl (n_store 0 H rfl rfl rfl rfl (vs := [.int .i64 b0.kind, v1]) rfl (one_cons rfl (one_cons sv1.one one_nil)) (by kernel_rfl) (by simp) (out := [.int .i64 b0.kind, v1]) rfl) ?_; rintro w H'; have H := H'.l12; clear H'; refine s_M 1 rfl rfl (s_end (k_seq (k_seq (s_region (s_M 2 rfl rfl (s_end (k_false rfl (k_skip (k_seq (s_region (s_do rfl rfl rfl (d_loadAgg rfl rfl (vs := [.int .i64 b0.kind, v1]) (by kernel_rfl) (here ((H.blk 0 rfl).part 0 2 _ rfl))) (s_put rfl rfl (n_store 7 H rfl rfl rfl rfl (vs := [.int .i64 b0.kind, v1]) rfl (one_cons rfl (one_cons sv1.one one_nil)) (by kernel_rfl) (by simp) (out := [.int .i64 b0.kind, v1]) rfl) ?_)))))))))))); rintro w H'; have H := H'.l12; clear H'; refine s_M 1 rfl rfl (s_end (k_ret (doneL rfl [.agg #[.int .i64 b0.kind, v1], .int .i64 0] ⟨⟨_, _, rfl, run_loadBlk (by kernel_rfl) (H.blk 7 rfl) (vs := [.int .i64 b0.kind, v1]) rfl⟩, ⟨rfl, trivial⟩⟩ (v := .tuple #[.agg #[.int .i64 b0.kind, v1], .int .i64 0]) rfl ?_))); have H' := H.toPgs 9 rfl hpg
       have H := H'.l12; clear H'; have H' := H.toPgsc 10 rfl hpgo hcno
       have H := H'.l12; clear H'; obtain rfl : q = b0 := by rw [hqe]; simp_all
       exact ⟨[grow 5 1 v1 240 (q.body.map u8), stB ps pd pt x lp md un (.map (some mo)), tblA pt, diskA pd D, pgsA md f hq, pgsC mo g k hq, poolA hq], .inr ⟨by first | exact hpok | exact hpoko | exact hbok, _, rfl, rfl⟩, H.perm 12 [1, 8, 2, 4, 9, 10, 11] rfl rfl⟩
    ·have hpk := hpok.1
     have spv : Slc pv 240 := hpr.slc
     refine s_do rfl rfl rfl (d_lookup2 (e := 65) (zv := .agg #[.int .i64 0, .slice none 0 0]) rfl (by kernel_rfl) (by kernel_rfl) rfl rfl (here (H.bk 5 rfl))) (k_updA 44 (u := .tuple #[(getM (es.map PgE.ie) (n : Int)).getD (.agg #[.int .i64 0, .slice none 0 0]), .bool (hasM (es.map PgE.ie) (n : Int))]) (v := .tuple #[.agg #[.int .i64 p.kind, pv], .bool true]) rfl (by simp [hasM, hg]) (s_M 3 rfl rfl (s_go rfl rfl rfl (n_alloc (P := Tryz.prog) H rfl (zs := [.int .i64 0, .slice none 0 0]) (by kernel_rfl)) ?_))); rintro _ w ⟨b6, rfl, H'⟩; have H := H'.l9; clear H'; refine s_put rfl rfl (n_store 0 H rfl rfl rfl rfl (vs := [.int .i64 p.kind, pv]) rfl (one_cons rfl (one_cons spv.one one_nil)) (by kernel_rfl) (by simp) (out := [.int .i64 p.kind, pv]) rfl) ?_; rintro w H'; have H := H'.l9; clear H'; refine s_M 1 rfl rfl (s_end (k_seq (s_region (s_M 1 rfl rfl (s_end (k_true rfl (k_seq (s_region (s_do rfl rfl rfl (d_loadAgg rfl rfl (vs := [.int .i64 p.kind, pv]) (by kernel_rfl) (here ((H.blk 0 rfl).part 0 2 _ rfl))) (s_C rfl rfl rfl rfl rfl (fun w => Tryz.call54 _ w) (copied_c p pv _ (fun h q => hpr.le q) hpok) H.f8 rfl ?_)))))))))); rintro _ w _ ⟨v1, rfl, rfl⟩ H'; have H := H'.l10; clear H'; have sv1 := H.says 0 rfl (fun h q => q.slc)
     refine s_put rfl rfl (n_store 4 H rfl rfl rfl rfl (vs := [.int .i64 p.kind, v1]) rfl (one_cons rfl (one_cons sv1.one one_nil)) (by kernel_rfl) (by simp) (out := [.int .i64 p.kind, v1]) rfl) ?_; rintro w H'; have H := H'.l10; clear H'; refine s_M 1 rfl rfl (s_end (k_ret (doneL rfl [.agg #[.int .i64 p.kind, v1], .int .i64 0] ⟨⟨_, _, rfl, run_loadBlk (by kernel_rfl) (H.blk 4 rfl) (vs := [.int .i64 p.kind, v1]) rfl⟩, ⟨rfl, trivial⟩⟩ (v := .tuple #[.agg #[.int .i64 p.kind, v1], .int .i64 0]) rfl ?_))); have H' := H.toPgs 8 rfl hpg
     have H := H'.l10; clear H'; have H' := H.toPgsc 9 rfl hpgo hcno
     have H := H'.l10; clear H'; obtain rfl : q = p := by rw [hqe]; simp_all
     exact ⟨[grow 5 1 v1 240 (q.body.map u8), stB ps pd pt x lp md un (.map (some mo)), tblA pt, diskA pd D, pgsA md f hq, pgsC mo g k hq, poolA hq], .inr ⟨by first | exact hpok | exact hpoko | exact hbok, _, rfl, rfl⟩, H.perm 10 [0, 5, 6, 7, 8, 9, 1] rfl rfl⟩
   ·have hpko := hpoko.1
    have spvo : Slc pvo 240 := hpro.slc
    refine s_do rfl rfl rfl (d_lookup2 (e := 65) (zv := .agg #[.int .i64 0, .slice none 0 0]) rfl (by kernel_rfl) (by kernel_rfl) rfl rfl (here (H.bk 5 rfl))) (k_updA 32 (u := .tuple #[(getM (eso.map PgE.ie) (n : Int)).getD (.agg #[.int .i64 0, .slice none 0 0]), .bool (hasM (eso.map PgE.ie) (n : Int))]) (v := .tuple #[.agg #[.int .i64 po.kind, pvo], .bool true]) rfl (by simp [hasM, hgo]) (s_M 3 rfl rfl (s_go rfl rfl rfl (n_alloc (P := Tryz.prog) H rfl (zs := [.int .i64 0, .slice none 0 0]) (by kernel_rfl)) ?_))); rintro _ w ⟨b7, rfl, H'⟩; have H := H'.l8; clear H'; refine s_put rfl rfl (n_store 0 H rfl rfl rfl rfl (vs := [.int .i64 po.kind, pvo]) rfl (one_cons rfl (one_cons spvo.one one_nil)) (by kernel_rfl) (by simp) (out := [.int .i64 po.kind, pvo]) rfl) ?_; rintro w H'; have H := H'.l8; clear H'; refine s_M 1 rfl rfl (s_end (k_seq (s_region (s_M 1 rfl rfl (s_end (k_true rfl (k_seq (s_region (s_do rfl rfl rfl (d_loadAgg rfl rfl (vs := [.int .i64 po.kind, pvo]) (by kernel_rfl) (here ((H.blk 0 rfl).part 0 2 _ rfl))) (s_C rfl rfl rfl rfl rfl (fun w => Tryz.call54 _ w) (copied_c po pvo _ (fun h q => hpro.le q) hpoko) H.f7 rfl ?_)))))))))); rintro _ w _ ⟨v1, rfl, rfl⟩ H'; have H := H'.l9; clear H'; have sv1 := H.says 0 rfl (fun h q => q.slc)
    refine s_put rfl rfl (n_store 3 H rfl rfl rfl rfl (vs := [.int .i64 po.kind, v1]) rfl (one_cons rfl (one_cons sv1.one one_nil)) (by kernel_rfl) (by simp) (out := [.int .i64 po.kind, v1]) rfl) ?_; rintro w H'; have H := H'.l9; clear H'; refine s_M 1 rfl rfl (s_end (k_ret (doneL rfl [.agg #[.int .i64 po.kind, v1], .int .i64 0] ⟨⟨_, _, rfl, run_loadBlk (by kernel_rfl) (H.blk 3 rfl) (vs := [.int .i64 po.kind, v1]) rfl⟩, ⟨rfl, trivial⟩⟩ (v := .tuple #[.agg #[.int .i64 po.kind, v1], .int .i64 0]) rfl ?_))); have H' := H.toPgs 7 rfl hpg
    have H := H'.l9; clear H'; have H' := H.toPgsc 8 rfl hpgo hcno
    have H := H'.l9; clear H'; obtain rfl : q = po := by rw [hqe]; simp_all
    exact ⟨[grow 5 1 v1 240 (q.body.map u8), stB ps pd pt x lp md un (.map (some mo)), tblA pt, diskA pd D, pgsA md f hq, pgsC mo g k hq, poolA hq], .inr ⟨by first | exact hpok | exact hpoko | exact hbok, _, rfl, rfl⟩, H.perm 9 [0, 4, 5, 6, 7, 8, 1] rfl rfl⟩
end Go.Proofs.YtbegkbjigbkljaaGreatDoor
namespace Go.Proofs.YtbegkbjigbkljaaGreatDoor
open Go.RowKit
set_option maxHeartbeats 2000000 in
theorem swrite_c (ps pd pt md mo : Nat) (x : Sup) (lp : Value) (g : Pgs) (k : Nat) (hq : Hp) (n : Nat) (hn : (n : Int) < x.pages) (p : Pg) (hp : p.Ok) (bv : Value) (A : Asn) (hA : ∀ h, A h → rdH 1 bv 240 (p.body.map u8) h) : Cn Tryz.prog 19 [.pointer (some ⟨ps, 0, none⟩), .int .i64 (n : Int), .agg #[.int .i64 p.kind, bv]] [stB ps pd pt x lp md true (.map (some mo)), pgsC mo g k hq, poolA hq, A] (fun v Γ => ((g n = none ∧ 40 ≤ k) ∧ v = .int .i64 16 ∧ Γ = [stB ps pd pt x lp md true (.map (some mo)), pgsC mo g k hq, poolA hq, A]) ∨ (¬ (g n = none ∧ 40 ≤ k) ∧ ∃ hq2, subH hq hq2 ∧ v = .int .i64 0 ∧ Γ = [stB ps pd pt x lp md true (.map (some mo)), pgsC mo (pgSet g n p) (k + (if (g n).isSome then 0 else 1)) hq2, poolA hq2, A])) := by
 intro z R w H'; have H : Sep z (stB ps pd pt x lp md true (.map (some mo)) :: pgsC mo g k hq :: poolA hq :: A :: R) w := H'
 clear H'; obtain ⟨eso, clko, hpgo, hcno, H'⟩ := H.pgsc 1 rfl; clear H; have H := H'.l4; clear H'; obtain ⟨bb, oo, cc, rfl⟩ := H.says 3 rfl (fun h q => (hA h q).sl (by simp [hp.2])); have hpk := hp.1
 have hlm : (eso.map PgE.ie).length = k := by simp [hcno]
 refine enter Tryz.func19 rfl 69 Tryz.ntmps19 rfl (k_seq (s_region (s_go rfl rfl rfl (n_box H rfl rfl (cs := [.int .i64 p.kind, .slice (some ⟨bb, oo, none⟩) 240 cc]) rfl) ?_))); rintro _ w ⟨b1, rfl, H'⟩; have H := H'.l5; clear H'; refine s_M 1 rfl rfl (s_end (k_seq (s_region (s_L 5 [12, 0] (mm1 (H.blk 1 rfl) mm0) rfl (by kernel_rfl) rfl ?_)))); rcases hpgo.get n with ⟨hfo, hgo⟩ | ⟨po, pvo, hfo, hpoko, hpro, hgo⟩
 ·refine s_do rfl rfl rfl (d_lookup2 (e := 65) (zv := .agg #[.int .i64 0, .slice none 0 0]) rfl (by kernel_rfl) (by kernel_rfl) rfl rfl (here (H.bk 2 rfl))) (k_updA 15 (u := .tuple #[(getM (eso.map PgE.ie) (n : Int)).getD (.agg #[.int .i64 0, .slice none 0 0]), .bool (hasM (eso.map PgE.ie) (n : Int))]) (v := .tuple #[.agg #[.int .i64 0, .slice none 0 0], .bool false]) rfl (by simp [hasM, hgo]) (s_M 3 rfl rfl (s_go rfl rfl rfl (n_alloc (P := Tryz.prog) H rfl (zs := [.int .i64 0, .slice none 0 0]) (by kernel_rfl)) ?_))); rintro _ w ⟨b2, rfl, H'⟩; have H := H'.l6; clear H'; refine s_put rfl rfl (n_store 0 H rfl rfl rfl rfl (vs := [.int .i64 0, .slice none 0 0]) rfl (by simp [u8, u32, Value.oneCell']) (by kernel_rfl) (by simp) (out := [.int .i64 0, .slice none 0 0]) rfl) ?_; rintro w H'; have H := H'.l6; clear H'; refine s_M 1 rfl rfl (s_end (k_seq (k_block (k_seq (s_region (s_L 6 [11, 0] (mm1 (H.blk 2 rfl) mm0) rfl (by kernel_rfl) rfl (s_end (k_false rfl (k_seq (s_region (s_M 3 rfl rfl (s_part 27 rfl (fun h1 => ?_) (fun h1 => ?_)))))))))))))
  ·(exfalso; omega)
  ·refine s_L 9 [2, 4, 0] (mm1 (H.blk 2 rfl) mm0) rfl (by kernel_rfl) rfl (s_end (k_dec rfl (fun h2 => ?_) (fun h2 => ?_)))
   ·(exfalso; omega)
   ·refine k_seq (s_region (s_L 4 [0, 0] (mm1 (H.blk 1 rfl) mm0) rfl (by kernel_rfl) rfl (s_part 40 rfl (fun h3 => ?_) (fun h3 => ?_))))
    ·(exfalso; omega)
    ·refine s_L 5 [0, 0] (mm1 (H.blk 1 rfl) mm0) rfl (by kernel_rfl) rfl (s_part 45 rfl (fun h4 => ?_) (fun h4 => ?_))
     ·(exfalso; omega)
     ·refine s_L 2 [1, 0] (mm1 (H.blk 1 rfl) mm0) rfl (by kernel_rfl) rfl (s_do rfl rfl rfl (d_len rfl (z := 1) (by kernel_rfl) rfl) (s_M 1 rfl rfl (k_updA 49 (u := .bool (decide ((240 : Int) ≠ 240))) (v := .bool false) rfl (congrArg Value.bool (by decide)) (s_M 2 rfl rfl (s_end (k_false rfl (k_seq (s_region (s_L 7 [12, 0] (mm1 (H.blk 2 rfl) mm0) rfl (by kernel_rfl) rfl (s_do rfl rfl rfl (d_lenM (e := 65) rfl (by kernel_rfl) rfl (here (H.bk 3 rfl))) (s_M 3 rfl rfl (s_end (k_dec rfl (fun h5 => ?_) (fun h5 => ?_))))))))))))))
      ·refine k_seq (s_region (s_M 1 rfl rfl (s_end (k_ret (doneL rfl [.int .i64 16] ⟨rfl, trivial⟩ (v := .int .i64 16) rfl ?_))))); have H' := H.toPgsc 3 rfl hpgo hcno
       have H := H'.l6; clear H'; exact ⟨[stB ps pd pt x lp md true (.map (some mo)), pgsC mo g k hq, poolA hq, A], .inl ⟨⟨hfo, by omega⟩, rfl, rfl⟩, H.perm 6 [2, 3, 4, 5] rfl rfl⟩
      ·refine k_skip (k_seq ?_); replace H := H.f1.f2; refine a_region (Sep z (stB ps pd pt x lp md true (.map (some mo)) :: blk b1 [.int .i64 p.kind, .slice (some ⟨bb, oo, none⟩) 240 cc] 65 :: R)) 8 rfl (by kernel_rfl) (fun w' x' _ => ?_); have H' := H.ext0 x'; clear x' H; revert H'; generalize w' = w; intro H'
       have H := H'.l6; clear H'; refine a_L [0, 1, 2, 3, 4] [12, 0] (fun _ hx => (mm1 (hx.blk 0 rfl) mm0)) (by exact (H.pick 6 [0, 1] rfl)) rfl (by kernel_rfl) rfl rfl (a_do 5 rfl (by kernel_rfl) (by kernel_rfl) (by kernel_rfl) rfl rfl rfl (d_loadAgg rfl rfl (vs := [.int .i64 p.kind, .slice (some ⟨bb, oo, none⟩) 240 cc]) (by kernel_rfl) (fun _ hx => (hx.blk 1 rfl).part 0 2 _ rfl)) (H.pick 6 [0, 1] rfl) (a_all [6] (by kernel_rfl) (by simp) (all1 (o_C rfl rfl rfl rfl rfl rfl (fun w => Tryz.call54 _ w) (copied_c p _ _ hA hp) H.f5 rfl ?_)))); rintro _ w _ ⟨v1, rfl, rfl⟩ H'; have H := H'.l7; clear H'; have sv1 := H.says 0 rfl (fun h q => q.slc)
       refine a_and (H.pick 7 [2, 3] rfl) (a_all [7] (by kernel_rfl) (by simp) (all1 (o_put rfl rfl rfl (n_mapUpdate 5 (e := 65) H rfl rfl (by kernel_rfl) rfl rfl rfl) ?_))); rintro w H'; have H := H'.l7; clear H'; refine a_and (H.pick 7 [2, 3] rfl) (a_done (by kernel_rfl) (k_seq (s_region (s_M 1 rfl rfl (s_end (k_ret (doneL rfl [.int .i64 0] ⟨rfl, trivial⟩ (v := .int .i64 0) rfl ?_))))))); replace H := H.f6; obtain ⟨hq2, ⟨shq2, hrd2⟩, H'⟩ := pool_rd H (fun h q => q.rd); clear H; have H := H'.l6; clear H'; obtain ⟨es2, hpm, hpg2, hln⟩ := (hpgo.le shq2).put (k := n) (p := p) hp hrd2; rw [hpm] at H; have H : Sep z (poolA hq2 :: A :: stB ps pd pt x lp md true (.map (some mo)) :: blk b1 [.int .i64 p.kind, .slice (some ⟨bb, oo, none⟩) 240 cc] 65 :: blk b2 [.int .i64 0, .slice none 0 0] 65 :: mapB mo (es2.map PgE.ie) (putC (eso.map PgE.ie) (n : Int) clko) :: R) w := H
       have H' := H.toPgsc 5 rfl hpg2 (by rw [hln, hcno])
       have H := H'.l6; clear H'; exact ⟨[stB ps pd pt x lp md true (.map (some mo)), pgsC mo (pgSet g n p) (k + (if (g n).isSome then 0 else 1)) hq2, poolA hq2, A], .inr ⟨fun q => by first | (rw [hfo] at q; cases q.1; done) | omega, hq2, shq2, rfl, rfl⟩, H.perm 6 [2, 5, 0, 1] rfl rfl⟩
 ·have hpko := hpoko.1
  have spvo : Slc pvo 240 := hpro.slc
  refine s_do rfl rfl rfl (d_lookup2 (e := 65) (zv := .agg #[.int .i64 0, .slice none 0 0]) rfl (by kernel_rfl) (by kernel_rfl) rfl rfl (here (H.bk 2 rfl))) (k_updA 15 (u := .tuple #[(getM (eso.map PgE.ie) (n : Int)).getD (.agg #[.int .i64 0, .slice none 0 0]), .bool (hasM (eso.map PgE.ie) (n : Int))]) (v := .tuple #[.agg #[.int .i64 po.kind, pvo], .bool true]) rfl (by simp [hasM, hgo]) (s_M 3 rfl rfl (s_go rfl rfl rfl (n_alloc (P := Tryz.prog) H rfl (zs := [.int .i64 0, .slice none 0 0]) (by kernel_rfl)) ?_))); rintro _ w ⟨b3, rfl, H'⟩; have H := H'.l6; clear H'; refine s_put rfl rfl (n_store 0 H rfl rfl rfl rfl (vs := [.int .i64 po.kind, pvo]) rfl (one_cons rfl (one_cons spvo.one one_nil)) (by kernel_rfl) (by simp) (out := [.int .i64 po.kind, pvo]) rfl) ?_; rintro w H'; have H := H'.l6; clear H'; refine s_M 1 rfl rfl (s_end (k_seq (k_block (k_seq (s_region (s_L 6 [11, 0] (mm1 (H.blk 2 rfl) mm0) rfl (by kernel_rfl) rfl (s_end (k_false rfl (k_seq (s_region (s_M 3 rfl rfl (s_part 27 rfl (fun h6 => ?_) (fun h6 => ?_)))))))))))))
  ·(exfalso; omega)
  ·refine s_L 9 [2, 4, 0] (mm1 (H.blk 2 rfl) mm0) rfl (by kernel_rfl) rfl (s_end (k_dec rfl (fun h7 => ?_) (fun h7 => ?_)))
   ·(exfalso; omega)
   ·refine k_seq (s_region (s_L 4 [0, 0] (mm1 (H.blk 1 rfl) mm0) rfl (by kernel_rfl) rfl (s_part 40 rfl (fun h8 => ?_) (fun h8 => ?_))))
    ·(exfalso; omega)
    ·refine s_L 5 [0, 0] (mm1 (H.blk 1 rfl) mm0) rfl (by kernel_rfl) rfl (s_part 45 rfl (fun h9 => ?_) (fun h9 => ?_))
     ·(exfalso; omega)
     ·refine s_L 2 [1, 0] (mm1 (H.blk 1 rfl) mm0) rfl (by kernel_rfl) rfl (s_do rfl rfl rfl (d_len rfl (z := 1) (by kernel_rfl) rfl) (s_M 1 rfl rfl (k_updA 49 (u := .bool (decide ((240 : Int) ≠ 240))) (v := .bool false) rfl (congrArg Value.bool (by decide)) (s_M 2 rfl rfl (s_end (k_false rfl (k_seq (s_region (s_M 11 rfl rfl (s_end (k_false rfl (k_skip (k_seq ?_))))))))))))); replace H := H.f1.f2; refine a_region (Sep z (stB ps pd pt x lp md true (.map (some mo)) :: blk b1 [.int .i64 p.kind, .slice (some ⟨bb, oo, none⟩) 240 cc] 65 :: R)) 8 rfl (by kernel_rfl) (fun w' x' _ => ?_); have H' := H.ext0 x'; clear x' H; revert H'; generalize w' = w; intro H'
      have H := H'.l6; clear H'; refine a_L [0, 1, 2, 3, 4] [12, 0] (fun _ hx => (mm1 (hx.blk 0 rfl) mm0)) (by exact (H.pick 6 [0, 1] rfl)) rfl (by kernel_rfl) rfl rfl (a_do 5 rfl (by kernel_rfl) (by kernel_rfl) (by kernel_rfl) rfl rfl rfl (d_loadAgg rfl rfl (vs := [.int .i64 p.kind, .slice (some ⟨bb, oo, none⟩) 240 cc]) (by kernel_rfl) (fun _ hx => (hx.blk 1 rfl).part 0 2 _ rfl)) (H.pick 6 [0, 1] rfl) (a_all [6] (by kernel_rfl) (by simp) (all1 (o_C rfl rfl rfl rfl rfl rfl (fun w => Tryz.call54 _ w) (copied_c p _ _ hA hp) H.f5 rfl ?_)))); rintro _ w _ ⟨v1, rfl, rfl⟩ H'; have H := H'.l7; clear H'; have sv1 := H.says 0 rfl (fun h q => q.slc)
      refine a_and (H.pick 7 [2, 3] rfl) (a_all [7] (by kernel_rfl) (by simp) (all1 (o_put rfl rfl rfl (n_mapUpdate 5 (e := 65) H rfl rfl (by kernel_rfl) rfl rfl rfl) ?_))); rintro w H'; have H := H'.l7; clear H'; refine a_and (H.pick 7 [2, 3] rfl) (a_done (by kernel_rfl) (k_seq (s_region (s_M 1 rfl rfl (s_end (k_ret (doneL rfl [.int .i64 0] ⟨rfl, trivial⟩ (v := .int .i64 0) rfl ?_))))))); replace H := H.f6; obtain ⟨hq2, ⟨shq2, hrd2⟩, H'⟩ := pool_rd H (fun h q => q.rd); clear H; have H := H'.l6; clear H'; obtain ⟨es2, hpm, hpg2, hln⟩ := (hpgo.le shq2).put (k := n) (p := p) hp hrd2; rw [hpm] at H; have H : Sep z (poolA hq2 :: A :: stB ps pd pt x lp md true (.map (some mo)) :: blk b1 [.int .i64 p.kind, .slice (some ⟨bb, oo, none⟩) 240 cc] 65 :: blk b3 [.int .i64 po.kind, pvo] 65 :: mapB mo (es2.map PgE.ie) (putC (eso.map PgE.ie) (n : Int) clko) :: R) w := H
      have H' := H.toPgsc 5 rfl hpg2 (by rw [hln, hcno])
      have H := H'.l6; clear H'; exact ⟨[stB ps pd pt x lp md true (.map (some mo)), pgsC mo (pgSet g n p) (k + (if (g n).isSome then 0 else 1)) hq2, poolA hq2, A], .inr ⟨fun q => by first | (rw [hfo] at q; cases q.1; done) | omega, hq2, shq2, rfl, rfl⟩, H.perm 6 [2, 5, 0, 1] rfl rfl⟩
end Go.Proofs.YtbegkbjigbkljaaGreatDoor
namespace Go.Proofs.YtbegkbjigbkljaaGreatDoor
theorem ring_in {s : Sup} (hs : SOk s) (x : Int) : s.start ≤ (ringAt s x : Int) ∧ (ringAt s x : Int) < s.start + s.len := by
  have h0 := hs.start
  have hh := hs.head
  have h1 := Int.emod_nonneg x (by omega : s.len ≠ 0)
  have h2 := Int.emod_lt_of_pos x (by omega : 0 < s.len)
  unfold ringAt
  omega
def SameIn (s : Sup) (D D' : Dsk) : Prop := ∀ i : Nat, s.start ≤ (i : Int) → (i : Int) < s.start + s.len → D'.dur i = D.dur i ∧ D'.ver i = D.ver i
def SameOut (s : Sup) (D D' : Dsk) : Prop := ∀ i : Nat, ¬ (s.start ≤ (i : Int) ∧ (i : Int) < s.start + s.len) → D'.dur i = D.dur i ∧ D'.ver i = D.ver i
theorem PInv.out {D D' : Dsk} {s : Sup} {rs : List Rc} {pt : List (List UInt8)} {a q u : Int} {b : Bool} {sure : Nat} (h : PInv D s rs pt a q u b sure) (hs : SOk s) (ho : SameIn s D D') : PInv D' s rs pt a q u b sure := by
  have hr : ∀ x : Int, D'.dur (ringAt s x) = D.dur (ringAt s x) ∧ D'.ver (ringAt s x) = D.ver (ringAt s x) := fun x => ho _ (ring_in hs x).1 (ring_in hs x).2
  refine ⟨h.fa, h.fq, h.fu, h.ul, h.pb, h.part, h.recs, fun i hi c hc => h.old i hi c ?_, fun i c hc => ?_, fun i c hc => ?_, h.sure⟩
  · unfold Has at hc ⊢; rwa [(hr _).1, (hr _).2] at hc
  · have := h.last i c hc
    unfold Dsk.cont at this ⊢; rw [(hr _).1, (hr _).2]; exact this
  · rw [(hr _).1, (hr _).2]; exact h.dura i c hc
theorem ovI_isSome {f : Pgs} {ims : List Img} {n : Nat} (h : (f n).isSome = true) : (ovI f ims n).isSome = true := by rw [ovI_mem, h]; rfl
theorem ov_app_isSome (ss : List Rc) : ∀ (rs : List Rc) {n : Nat}, (ov rs n).isSome = true → (ov (rs ++ ss) n).isSome = true := by
  induction ss with
  | nil => intro rs n h; rwa [List.append_nil]
  | cons r ss ih =>
    intro rs n h
    rw [show rs ++ r :: ss = (rs ++ [r]) ++ ss from by simp]
    exact ih _ (by rw [ov_snoc]; exact ovI_isSome h)
theorem ov_take_isSome {rs : List Rc} {k n : Nat} (h : (ov (rs.take k) n).isSome = true) : (ov rs n).isSome = true := by
  have := ov_app_isSome (rs.drop k) _ h
  rwa [List.take_append_drop] at this
structure Clean (D : Dsk) : Prop where
  f1 : D.f1 = 0
  f2 : D.f2 = 0
  f3 : D.f3 = 0
  cut : D.cut = false
theorem Clean.bad {D : Dsk} (h : Clean D) : ¬ D.bad := by
  rintro (g | ⟨g, _⟩)
  · rw [h.f2] at g; cases g
  · rw [h.cut] at g; cases g
theorem Clean.flb {D : Dsk} (h : Clean D) : ¬ D.flb := by
  rintro (g | ⟨g, _⟩)
  · rw [h.f3] at g; cases g
  · rw [h.cut] at g; cases g
theorem Clean.wr1 {D : Dsk} (h : Clean D) (b : Bool) (x : Nat) (p : List UInt8) : Clean (wr1 D b x p) := by
  have hf := Dsk.ws_f b [p] { D with f2 := tick D.f2 } x
  refine ⟨hf.1.trans h.f1, hf.2.1.trans ?_, hf.2.2.1.trans h.f3, hf.2.2.2.1.trans h.cut⟩
  show tick D.f2 = 0
  rw [h.f2]; rfl
theorem Clean.wr {D : Dsk} (h : Clean D) (x : Nat) (ps : List (List UInt8)) : Clean (D.wr x ps) := by
  have hf := Dsk.ws_f false ps { D with f2 := tick D.f2 } x
  refine ⟨hf.1.trans h.f1, hf.2.1.trans ?_, hf.2.2.1.trans h.f3, hf.2.2.2.1.trans h.cut⟩
  show tick D.f2 = 0
  rw [h.f2]; rfl
theorem Clean.hw (l : List (Nat × Pg)) : ∀ {D : Dsk}, Clean D → Clean (hwD D l) := by
  induction l with
  | nil => intro D h; exact h
  | cons x l ih => intro D h; rw [hwD_cons]; exact ih (h.wr _ _)
theorem Clean.fl {D : Dsk} (h : Clean D) : Clean D.fl := ⟨h.f1, h.f2, by show tick D.f3 = 0; rw [h.f3]; rfl, h.cut⟩
theorem Clean.sv {D : Dsk} (h : Clean D) (x : Sup) : Clean (svD D x) := h.wr1 true _ _
theorem Clean.setF {D : Dsk} (h : Clean D) {l : List (Nat × Pg)} {c : Int} {D2 : Dsk} : ¬ SetF D l c D2 := by
  rintro (⟨j, g, _⟩ | ⟨g, _⟩ | ⟨g, _⟩)
  · exact (h.hw _).bad g
  · exact (h.hw _).flb g
  · exact (h.hw _).fl.bad g
/-! ### a store -/
structure SInv (D : Dsk) (x : Sup) (B : Nat → Pg) (rs : List Rc) (ptl : List (List UInt8)) (a q u : Int) (b : Bool) (sure : Nat) : Prop where
  ok : x.Ok (D.n : Int)
  p : PInv D x rs ptl a q u b sure
  s : SOk x
  gen : 1 ≤ x.gen
  num : ∀ r ∈ rs, ∀ m ∈ r.ims, m.num < x.pages
  home : ∀ i : Nat, (i : Int) < x.pages → ∀ c, Has D (2 + i) c → HomeP c i (B i) ∨ ((ov (rs.take sure) i).isSome = true ∧ ∃ p, HomeP c i p)
  sup : D.dur (x.gen % 2).toNat = supS x ∧ D.ver (x.gen % 2).toNat = []
  oth : ∃ y : Sup, y.Ok (D.n : Int) ∧ y.gen = x.gen - 1 ∧ D.dur ((x.gen + 1) % 2).toNat = supS y ∧ D.ver ((x.gen + 1) % 2).toNat = []
  rest : ∀ i : Nat, 2 + x.pages ≤ (i : Int) → ¬ (x.start ≤ (i : Int) ∧ (i : Int) < x.start + x.len) → ∀ c, Has D i c → ∀ e q, Tg c e q → e ≤ x.epoch
variable {D D' : Dsk} {x : Sup} {B : Nat → Pg} {rs : List Rc} {ptl : List (List UInt8)} {a q u : Int} {b : Bool} {sure : Nat}
theorem SInv.cur (h : SInv D x B rs ptl a q u b sure) {i : Nat} (hi : (i : Int) < x.pages) (ho : ov rs i = none) : HomeP (D.cont (2 + i)) i (B i) := by
  rcases h.home i hi _ (cont_has D _) with g | ⟨g, _⟩
  · exact g
  · have := ov_take_isSome g
    rw [ho] at this; cases this
theorem SInv.ovb (h : SInv D x B rs ptl a q u b sure) {n : Nat} (ho : (ov rs n).isSome = true) : (n : Int) < x.pages := by
  obtain ⟨p, hp⟩ := Option.isSome_iff_exists.1 ho
  obtain ⟨r, hr, m, hm, hn, _⟩ := ov_get _ rs rfl hp
  have h1 := h.num r hr m hm
  have h2 := h.ok.2
  omega
theorem SInv.ovok (h : SInv D x B rs ptl a q u b sure) {n : Nat} {p : Pg} (ho : ov rs n = some p) : p.Ok := by
  obtain ⟨r, hr, m, hm, _, rfl⟩ := ov_get _ rs rfl ho
  obtain ⟨j, hj⟩ := List.getElem?_of_mem hr
  exact imPg_ok ((h.p.recs j r hj).2.2 m hm)
theorem SInv.f (h : SInv D x B rs ptl a q u b sure) (h0 : D'.n = D.n) (h1 : D'.dur = D.dur) (h2 : D'.ver = D.ver) : SInv D' x B rs ptl a q u b sure :=
  ⟨by rw [h0]; exact h.ok, h.p.f h1 h2, h.s, h.gen, h.num, fun i hi c hc => h.home i hi c (by unfold Has at hc ⊢; rwa [h1, h2] at hc), by rw [h1, h2]; exact h.sup, by
    obtain ⟨y, a, b, c, d⟩ := h.oth; exact ⟨y, by rw [h0]; exact a, b, by rw [h1]; exact c, by rw [h2]; exact d⟩, fun i hi hr c hc => h.rest i hi hr c (by unfold Has at hc ⊢; rwa [h1, h2] at hc)⟩
theorem SInv.log (h : SInv D x B rs ptl a q u b sure) (h0 : D'.n = D.n) (ho : SameOut x D D') {rs' : List Rc} {ptl' : List (List UInt8)} {a' q' u' : Int} {b' : Bool} (hp : PInv D' x rs' ptl' a' q' u' b' sure) (hr : rs'.take sure = rs.take sure) (hnum : ∀ r ∈ rs', ∀ m ∈ r.ims, m.num < x.pages) : SInv D' x B rs' ptl' a' q' u' b' sure := by
  have hk := h.ok.2
  have hg := h.gen
  have hm0 : ∀ i : Nat, (i : Int) < x.start → D'.dur i = D.dur i ∧ D'.ver i = D.ver i := fun i hi => ho i (by omega)
  refine ⟨by rw [h0]; exact h.ok, hp, h.s, hg, hnum, fun i hi c hc => ?_, ?_, ?_, fun i hi hr c hc => h.rest i hi hr c (by have := ho i hr; unfold Has at hc ⊢; rwa [this.1, this.2] at hc)⟩
  · have := hm0 (2 + i) (by omega)
    unfold Has at hc
    rw [this.1, this.2] at hc
    rw [hr]
    exact h.home i hi c hc
  · have := hm0 (x.gen % 2).toNat (by omega)
    rw [this.1, this.2]; exact h.sup
  · obtain ⟨y, a, b, c, d⟩ := h.oth
    have := hm0 ((x.gen + 1) % 2).toNat (by omega)
    exact ⟨y, by rw [h0]; exact a, b, by rw [this.1]; exact c, by rw [this.2]; exact d⟩
theorem cont_of {D : Dsk} {i : Nat} (h : D.ver i = []) : D.cont i = D.dur i := cont_nil h
theorem SInv.flush (h : SInv D x B rs ptl a q u b sure) : SInv D.fl x B rs ptl a q u b rs.length := by
  refine ⟨h.ok, h.p.flush, h.s, h.gen, h.num, fun i hi c hc => ?_, ?_, ?_, fun i hi hr c hc => h.rest i hi hr c (fl_has hc)⟩
  · rw [List.take_length]
    rcases h.home i hi c (fl_has hc) with g | ⟨g1, g2⟩
    · exact .inl g
    · exact .inr ⟨ov_take_isSome g1, g2⟩
  · exact ⟨(cont_of h.sup.2).trans h.sup.1, rfl⟩
  · obtain ⟨y, a, b, c, d⟩ := h.oth
    exact ⟨y, a, b, (cont_of d).trans c, rfl⟩
theorem hw_same (hx : x.Ok (D.n : Int)) {l : List (Nat × Pg)} (hl : ∀ y ∈ l, (y.1 : Int) < x.pages) : SameIn x D (hwD D l) := fun i hi _ => by
  have hk := hx.2
  refine ⟨by rw [hw_dur], hw_out l D i fun y hy e => ?_⟩
  have := hl y hy
  omega
theorem SInv.hw (h : SInv D x B rs ptl a q u b rs.length) {l : List (Nat × Pg)} (hl : ∀ y ∈ l, ov rs y.1 = some y.2) : SInv (hwD D l) x B rs ptl a q u b rs.length := by
  have hk := h.ok.2
  have hg := h.gen
  have hlb : ∀ y ∈ l, (y.1 : Int) < x.pages := fun y hy => h.ovb (by rw [hl y hy]; rfl)
  have hlow : ∀ i : Nat, i < 2 → (hwD D l).ver i = D.ver i := fun i hi => hw_out l D i fun y _ e => by omega
  refine ⟨by rw [hw_n]; exact h.ok, h.p.out h.s (hw_same h.ok hlb), h.s, hg, h.num, fun i hi c hc => ?_, ?_, ?_, fun i hi hr c hc => ?_⟩
  · rcases hw_has l D _ c hc with g | ⟨y, hy, he, hc⟩
    · exact h.home i hi c g
    · refine .inr ⟨?_, y.2, .inr ⟨h.ovok (hl y hy), ?_⟩⟩
      · rw [List.take_length, show i = y.1 from by omega, hl y hy]; rfl
      · rw [hc, show i = y.1 from by omega]
  · rw [hw_dur, hlow _ (by omega)]; exact h.sup
  · obtain ⟨y, a, b, c, d⟩ := h.oth
    exact ⟨y, by rw [hw_n]; exact a, b, by rw [hw_dur]; exact c, by rw [hlow _ (by omega)]; exact d⟩
  · rcases hw_has l D _ c hc with g | ⟨y, hy, he, _⟩
    · exact h.rest i hi hr c g
    · have := hlb y hy
      omega
theorem SInv.setF (h : SInv D x B rs ptl a q u b rs.length) {ks : List Int} (hks : KsOk (ov rs) ks) {c : Int} {D2 : Dsk} (hD : SetF D (pgLst (ov rs) ks) c D2) : SInv D2 x B rs ptl a q u b rs.length := by
  have hl : ∀ l : List (Nat × Pg), (∀ y ∈ l, y ∈ pgLst (ov rs) ks) → SInv (hwD D l) x B rs ptl a q u b rs.length := fun l h1 => h.hw fun y hy => (pgLst_mem hks y.1 y.2).1 (h1 y hy)
  rcases hD with ⟨j, _, _, rfl⟩ | ⟨_, _, rfl⟩ | ⟨_, _, rfl⟩
  · exact (hl _ fun y hy => List.mem_of_mem_take hy).f rfl rfl rfl
  · exact (hl _ fun y hy => hy).f rfl rfl rfl
  · exact (hl _ fun y hy => hy).flush.f rfl rfl rfl
theorem SInv.settled (h : SInv D x B rs ptl a q u b rs.length) {ks : List Int} (hks : KsOk (ov rs) ks) (hq : q ≤ 1099511627776) {y : Sup} (hy : y.Ok (D.n : Int)) (h1 : y.start = x.start) (h2 : y.len = x.len) (h3 : y.epoch = x.epoch) (h4 : y.head = a) (h5 : y.seq = q) (h6 : y.pages = x.pages) (h7 : y.gen = x.gen + 1) :
    SInv (svD (hwD D (pgLst (ov rs) ks)).fl y) y (pgMap (ov rs) B) [] [] a q 0 false 0 := by
  have hk := h.ok.2
  have hg := h.gen
  have hall : SInv (hwD D (pgLst (ov rs) ks)) x B rs ptl a q u b rs.length := h.hw fun z hz => (pgLst_mem hks z.1 z.2).1 hz
  have hfl := hall.flush
  have hat := h.p.at_ok h.s
  have hy0 := Sup.get hy
  have hqq := h.p.fq
  have hsq := h.s.seq
  have hq0 : 0 ≤ q := by split at hqq <;> omega
  have hso : SOk y := ⟨by rw [h1]; exact h.s.start, by rw [h4, h2]; exact hat, by rw [h3]; exact h.s.epoch, by rw [h5]; exact hq0⟩
  have hsv : SameIn x (hwD D (pgLst (ov rs) ks)).fl (svD (hwD D (pgLst (ov rs) ks)).fl y) := fun i hi _ => by
    have := sv_out (hwD D (pgLst (ov rs) ks)).fl y i (by omega)
    exact this
  have hp1 := hfl.p.out h.s hsv
  have hp2 := hp1.drop h.s hq h1 h2 h3 h4 h5 (by omega) (by rw [h4, h2]; exact hat)
  refine ⟨by show y.Ok ((hwD D _).n : Int); rw [hw_n]; exact hy, hp2, hso, by omega, fun r hr => (by cases hr), fun i hi c hc => .inl ?_, sv_here _ y, ?_, fun i hi hr c hc e q' ht => ?_⟩
  · have hout := sv_out (hwD D (pgLst (ov rs) ks)).fl y (2 + i) (by omega)
    unfold Has at hc
    rw [hout.1, hout.2] at hc
    rcases hc with rfl | hc
    · show HomeP ((hwD D (pgLst (ov rs) ks)).cont (2 + i)) i _
      unfold pgMap
      cases ho : ov rs i with
      | some p =>
        have hm : (i, p) ∈ pgLst (ov rs) ks := (pgLst_mem hks i p).2 ho
        rw [hw_in _ D (pgLst_nodup hks) (i, p) hm]
        exact .inr ⟨h.ovok ho, rfl⟩
      | none =>
        rw [hw_cont_out _ D _ (fun z hz e => by
          have := (pgLst_mem hks z.1 z.2).1 hz
          rw [show z.1 = i from by omega, ho] at this; cases this)]
        exact h.cur (by omega) ho
    · cases hc
  · refine ⟨x, by show x.Ok ((hwD D _).n : Int); rw [hw_n]; exact h.ok, by omega, ?_⟩
    have hout := sv_out (hwD D (pgLst (ov rs) ks)).fl y ((y.gen + 1) % 2).toNat (by omega)
    rw [hout.1, hout.2, show (y.gen + 1) % 2 = x.gen % 2 from by omega]
    exact hfl.sup
  · have hout := sv_out (hwD D (pgLst (ov rs) ks)).fl y i (by omega)
    unfold Has at hc
    rw [hout.1, hout.2] at hc
    rw [h3]
    exact hfl.rest i (by omega) (by rwa [h1, h2] at hr) c hc e q' ht
theorem SInv.tags (h : SInv D x B rs ptl a q u b sure) (hq : q ≤ 1099511627776) {i : Nat} (hi : 2 + x.pages ≤ (i : Int)) {c : List UInt8} (hc : Has D i c) {e q' : Int} (ht : Tg c e q') : e ≤ x.epoch := by
  by_cases hr : x.start ≤ (i : Int) ∧ (i : Int) < x.start + x.len
  · have hl : 0 < x.len := by have := h.s.head; omega
    obtain ⟨j, hj, he⟩ := ring_all hl x.head ((i : Int) - x.start)
    have hi : ringAt x ((i : Int) - x.start) = i := by
      unfold ringAt
      rw [Int.emod_eq_of_lt (by omega) (by omega)]; omega
    have := h.p.tags h.s hq hj (c := c) (by rw [← he, hi]; exact hc) ht
    omega
  · exact h.rest i hi hr c hc e q' ht
theorem PInv.fresh {D : Dsk} {s : Sup} (hs : SOk s) (h : ∀ i : Nat, s.start ≤ (i : Int) → (i : Int) < s.start + s.len → ∀ c, Has D i c → ∀ e q, Tg c e q → e < s.epoch) : PInv D s [] [] s.head s.seq 0 false 0 := by
  refine ⟨?_, by simp, by simp [secs], by have := hs.head; omega, fun _ => rfl, .inl rfl, fun j r h => by simp at h, fun i hi c hc => .inl fun e q ht => .inl ?_, fun i c h => by simp [secs] at h, fun i c h => by simp [secs] at h, Nat.le_refl _⟩
  · rw [Int.add_zero, Int.emod_eq_of_lt hs.head.1 hs.head.2]
  · have := ring_in hs (s.head + i)
    exact h _ this.1 this.2 c hc e q ht
def swS (x : Sup) (start len : Int) : Sup := { x with gen := x.gen + 1, epoch := x.epoch + 1, start := start, len := len, head := 0, seq := 1 }
theorem swS_f (x : Sup) (s l : Int) : (swS x s l).gen = x.gen + 1 ∧ (swS x s l).epoch = x.epoch + 1 ∧ (swS x s l).pages = x.pages ∧ (swS x s l).start = s ∧ (swS x s l).len = l ∧ (swS x s l).head = 0 ∧ (swS x s l).seq = 1 := ⟨rfl, rfl, rfl, rfl, rfl, rfl, rfl⟩
theorem SInv.switched (h : SInv D x B rs ptl a q u b sure) (he1 : x.epoch + 1 < 4294967296) (hn : ∀ n, ov rs n = none) (hq : q ≤ 1099511627776) {s l : Int} (hy : (swS x s l).Ok (D.n : Int)) : SInv (svD D (swS x s l)) (swS x s l) B [] [] 0 1 0 false 0 := by
  have hf := swS_f x s l
  have hg := h.gen
  have he := h.s.epoch
  have hk := hy.2
  have hso : SOk (swS x s l) := ⟨by omega, by omega, by omega, by omega⟩
  have hhas : ∀ i : Nat, 2 ≤ i → ∀ c, Has (svD D (swS x s l)) i c → Has D i c := fun i hi c hc => by
    have hout := sv_out D (swS x s l) i (by omega)
    unfold Has at hc ⊢
    rwa [hout.1, hout.2] at hc
  refine ⟨hy, ?_, hso, by omega, fun r hr => (by cases hr), fun i hi c hc => .inl ?_, sv_here _ _, ?_, fun i hi hr c hc e q' ht => ?_⟩
  · have := PInv.fresh (D := svD D (swS x s l)) hso (fun i h1 h2 c hc e q' ht => ?_)
    · rw [hf.2.2.2.2.2.1, hf.2.2.2.2.2.2] at this; exact this
    · have := h.tags hq (by omega) (hhas i (by omega) c hc) ht
      omega
  · rcases h.home i (by omega) c (hhas _ (by omega) c hc) with g | ⟨g, _⟩
    · exact g
    · have := ov_take_isSome g
      rw [hn] at this; cases this
  · have hout := sv_out D (swS x s l) ((x.gen + 1 + 1) % 2).toNat (by omega)
    refine ⟨x, h.ok, by omega, ?_⟩
    rw [hf.1, hout.1, hout.2, show (x.gen + 1 + 1) % 2 = x.gen % 2 from by omega]
    exact h.sup
  · have := h.tags hq (by omega) (hhas i (by omega) c hc) ht
    omega
end Go.Proofs.YtbegkbjigbkljaaGreatDoor
namespace Go.Proofs.YtbegkbjigbkljaaGreatDoor
open Go.RowKit
def codeP (c : Int) (ims : List Img) (room : Prop) : Prop := (c = 16 ∧ ims.length > 40) ∨ (c = 1 ∧ ims.length ≤ 40 ∧ (ims = [] ∨ ¬ recOK ims)) ∨ (c = 15 ∧ (1 ≤ ims.length ∧ ims.length ≤ 40) ∧ recOK ims ∧ ¬ room)
structure OpM where
  k0 : Int
  kd : Int
  fl : Int
  k4 : Int
  k5 : Int
  ns : List Int
abbrev OpE := OpM × Value × Value
def OpE.cells (e : OpE) : List Value := [.int .i64 e.1.k0, e.2.1, .int .i64 e.1.kd, .int .i64 e.1.fl, .int .i64 e.1.k4, .int .i64 e.1.k5, e.2.2]
structure Cln (D : Dsk) (V : Nat) : Prop where
  f1 : D.f1 = 0
  f2 : D.f2 = 0
  cut : D.cut = false
  ver : ∀ i, (D.ver i).length ≤ V
theorem Cln.wr {D : Dsk} {V : Nat} (h : Cln D V) (x : Nat) (ps : List (List UInt8)) : Cln (D.wr x ps) (V + 1) := by
  have hf := Dsk.ws_f false ps { D with f2 := tick D.f2 } x
  refine ⟨hf.1.trans h.f1, hf.2.1.trans ?_, hf.2.2.2.1.trans h.cut, fun i => Nat.le_trans (Dsk.wr_len D x ps i) (Nat.succ_le_succ (h.ver i))⟩
  show tick D.f2 = 0
  rw [h.f2]; rfl
theorem Cln.le {D : Dsk} {V V' : Nat} (h : Cln D V) (hv : V ≤ V') : Cln D V' := ⟨h.f1, h.f2, h.cut, fun i => Nat.le_trans (h.ver i) hv⟩
theorem Cln.app {D : Dsk} {V : Nat} (h : Cln D V) (s : Sup) (a : Int) (k : Nat) (ps : List (List UInt8)) : Cln (appD D s a k ps) (V + 2) := by
  unfold appD; split
  · exact (h.wr _ _).wr _ _
  · exact (h.wr _ _).le (by omega)
end Go.Proofs.YtbegkbjigbkljaaGreatDoor
namespace Go.Proofs.YtbegkbjigbkljaaGreatDoor
open Go.RowKit
theorem SameOut.refl (s : Sup) (D : Dsk) : SameOut s D D := fun _ _ => ⟨rfl, rfl⟩
theorem SameOut.one {s : Sup} {D : Dsk} {x : Nat} {ps : List (List UInt8)} (h1 : s.start ≤ x) (h2 : (x : Int) + ps.length ≤ s.start + s.len) : SameOut s D (D.wr x ps) := fun i hi => ⟨by rw [wr_dur], wr_out' _ _ _ _ (by omega)⟩
theorem SameOut.trans {s : Sup} {D D1 D2 : Dsk} (h1 : SameOut s D D1) (h2 : SameOut s D1 D2) : SameOut s D D2 := fun i hi => ⟨(h2 i hi).1.trans (h1 i hi).1, (h2 i hi).2.trans (h1 i hi).2⟩
theorem appendQ_c (pl pd pt : Nat) (sL x : Sup) (nu : Bool) (v : Value) (ims : List Img) (A : Asn) (hA : ∀ h, A h → imgsH v ims h) (D : Dsk) {B : Nat → Pg} {rs : List Rc} {ptl : List (List UInt8)} {a q u : Int} {b : Bool} {sure : Nat} (hS : SInv D x B rs ptl a q u b sure) (hnum : ∀ m ∈ ims, m.num < x.pages) (h1 : sL.start = x.start) (h2 : sL.len = x.len) (h3 : sL.epoch = x.epoch) (hok : sL.Ok (D.n : Int)) (hnu : nu = decide (sL.epoch < 4294967296)) (hq : 0 ≤ q ∧ q ≤ 1099511627776) (hver : ∀ i, (D.ver i).length ≤ 1000000000000) :
    Cn Tryz.prog 94 [.pointer (some ⟨pl, 0, none⟩), v] [blk pl [.pointer (some ⟨pd, 0, none⟩), .pointer (some ⟨pt, 0, none⟩), .int .i64 sL.gen, .int .i64 sL.epoch, .int .i64 sL.pages, .int .i64 sL.start, .int .i64 sL.len, .int .i64 sL.head, .int .i64 sL.seq, .int .i64 a, .int .i64 q, .int .i64 u, .bool b, .bool nu] 176, tblA pt, diskA pd D, A] (fun v Γ =>
      (∃ (Da : Dsk) (a2 q2 u2 : Int), (1 ≤ ims.length ∧ ims.length ≤ 40) ∧ recOK ims ∧ SInv Da x B (rs ++ [⟨q, ims⟩]) [] a2 q2 u2 b sure ∧ b = false ∧ (Clean D → Clean Da) ∧ (Da.n = D.n ∧ ∀ i, (Da.ver i).length ≤ (D.ver i).length + 2) ∧ q2 = q + 1 ∧ u2 = u + (1 + (ims.length : Int)) ∧ v = .int .i64 0 ∧ Γ = [blk pl [.pointer (some ⟨pd, 0, none⟩), .pointer (some ⟨pt, 0, none⟩), .int .i64 sL.gen, .int .i64 sL.epoch, .int .i64 sL.pages, .int .i64 sL.start, .int .i64 sL.len, .int .i64 sL.head, .int .i64 sL.seq, .int .i64 a2, .int .i64 q2, .int .i64 u2, .bool b, .bool nu] 176, tblA pt, diskA pd Da, A]) ∨
      (∃ c : Int, codeP c ims (1 + (ims.length : Int) ≤ (if b then 0 else x.len - u) ∧ nu = true ∧ q < 1099511627776) ∧ v = .int .i64 c ∧ Γ = [blk pl [.pointer (some ⟨pd, 0, none⟩), .pointer (some ⟨pt, 0, none⟩), .int .i64 sL.gen, .int .i64 sL.epoch, .int .i64 sL.pages, .int .i64 sL.start, .int .i64 sL.len, .int .i64 sL.head, .int .i64 sL.seq, .int .i64 a, .int .i64 q, .int .i64 u, .bool b, .bool nu] 176, tblA pt, diskA pd D, A]) ∨
      (∃ (Df : Dsk) (ptl2 : List (List UInt8)), ¬ Clean D ∧ SInv Df x B rs ptl2 a (q + 1) u true sure ∧ (Df.n = D.n ∧ ∀ i, (Df.ver i).length ≤ (D.ver i).length + 2) ∧ v = .int .i64 11 ∧ Γ = [blk pl [.pointer (some ⟨pd, 0, none⟩), .pointer (some ⟨pt, 0, none⟩), .int .i64 sL.gen, .int .i64 sL.epoch, .int .i64 sL.pages, .int .i64 sL.start, .int .i64 sL.len, .int .i64 sL.head, .int .i64 sL.seq, .int .i64 a, .int .i64 (q + 1), .int .i64 u, .bool true, .bool nu] 176, tblA pt, diskA pd Df, A])) := by
  have hP := hS.p
  have hs := hS.s
  have hat := hP.at_ok hs
  have hsd := hs.head
  have hss := hs.start
  have hu0 := hP.fu
  have hul := hP.ul
  refine Cn.mono (append_c pl pd pt sL a q u b nu v ims A hA D hok hnu (by omega) (by omega) (by omega) hver) ?_
  rintro v Γ (⟨g1, rfl, rfl⟩ | ⟨g1, g2, rfl, rfl⟩ | ⟨g1, g2, g3, rfl, rfl⟩ | ⟨g1, g2, g3, k, hk, g4⟩)
  · exact .inr (.inl ⟨16, .inl ⟨rfl, g1⟩, rfl, rfl⟩)
  · exact .inr (.inl ⟨1, .inr (.inl ⟨rfl, g1, g2⟩), rfl, rfl⟩)
  · exact .inr (.inl ⟨15, .inr (.inr ⟨rfl, g1, g2, by rw [← h2]; exact g3⟩), rfl, rfl⟩)
  · have g3' := g3.1
    cases b with
    | true => rw [if_pos rfl] at g3'; omega
    | false =>
      rw [if_neg (by decide)] at g3'
      have hr : 1 + (ims.length : Int) ≤ x.len - u := by omega
      have hk' : (k : Int) = min (1 + (ims.length : Int)) (x.len - a) := by rw [← h2]; exact hk
      have hpl := recB_len x.epoch q ims
      rw [h1, h3] at g4
      have l1 := fun i => Dsk.wr_len D (x.start + a).toNat ((recB x.epoch q ims).take k) i
      have l2 := fun i => Dsk.wr_len (D.wr (x.start + a).toNat ((recB x.epoch q ims).take k)) x.start.toNat ((recB x.epoch q ims).drop k) i
      have o1 : SameOut x D (D.wr (x.start + a).toNat ((recB x.epoch q ims).take k)) := SameOut.one (by omega) (by rw [List.length_take, hpl]; omega)
      have o2 : SameOut x (D.wr (x.start + a).toNat ((recB x.epoch q ims).take k)) ((D.wr (x.start + a).toNat ((recB x.epoch q ims).take k)).wr x.start.toNat ((recB x.epoch q ims).drop k)) := SameOut.one (by omega) (by rw [List.length_drop, hpl]; omega)
      have hap := hP.app hs g1 g2.1 hr hk'
      have htk : (rs ++ [(⟨q, ims⟩ : Rc)]).take sure = rs.take sure := List.take_append_of_le_length hP.sure
      have hnum2 : ∀ r ∈ rs ++ [(⟨q, ims⟩ : Rc)], ∀ m ∈ r.ims, m.num < x.pages := fun r hr m hm => by
        rcases List.mem_append.1 hr with hr | hr
        · exact hS.num r hr m hm
        · rw [List.mem_singleton.1 hr] at hm; exact hnum m hm
      rcases g4 with ⟨_, g5, rfl, rfl⟩ | ⟨_, g5, _, rfl, rfl⟩ | ⟨g5, rfl, rfl⟩ | ⟨_, g6, g5, rfl, rfl⟩
      · unfold appD at hap
        rw [if_neg (by omega)] at hap
        exact .inl ⟨_, (a + (1 + (ims.length : Int))) % x.len, q + 1, u + (1 + (ims.length : Int)), g1, g2, hS.log (Dsk.wr_n _ _ _) o1 hap htk hnum2, rfl, fun hc => hc.wr _ _, ⟨Dsk.wr_n _ _ _, fun i => by have := l1 i; omega⟩, rfl, rfl, rfl, by simp only [lgB, h1, h2, h3]⟩
      · unfold appD at hap
        rw [if_pos (by omega)] at hap
        exact .inl ⟨_, (a + (1 + (ims.length : Int))) % x.len, q + 1, u + (1 + (ims.length : Int)), g1, g2, hS.log (by rw [Dsk.wr_n, Dsk.wr_n]) (o1.trans o2) hap htk hnum2, rfl, fun hc => (hc.wr _ _).wr _ _, ⟨by rw [Dsk.wr_n, Dsk.wr_n], fun i => by have := l1 i; have := l2 i; omega⟩, rfl, rfl, rfl, by simp only [lgB, h1, h2, h3]⟩
      · exact .inr (.inr ⟨D.wf, _, fun hc => hc.bad g5, SInv.log (D' := D.wf) hS rfl (fun _ _ => ⟨rfl, rfl⟩) hP.fail0 rfl hS.num, ⟨rfl, fun i => by show (D.ver i).length ≤ _; omega⟩, rfl, by simp only [lgB, h1, h3]⟩)
      · exact .inr (.inr ⟨Dsk.wf (D.wr (x.start + a).toNat ((recB x.epoch q ims).take k)), _, fun hc => (hc.wr _ _).bad g5, SInv.log (D' := Dsk.wf (D.wr (x.start + a).toNat ((recB x.epoch q ims).take k))) hS (Dsk.wr_n _ _ _) o1 (hP.fail1 hs g1 g2.1 hr hk' g6) rfl hS.num, ⟨Dsk.wr_n _ _ _, fun i => by have := l1 i; show ((D.wr (x.start + a).toNat ((recB x.epoch q ims).take k)).ver i).length ≤ _; omega⟩, rfl, by simp only [lgB, h1, h3]⟩)
end Go.Proofs.YtbegkbjigbkljaaGreatDoor
namespace Go.Proofs.YtbegkbjigbkljaaGreatDoor
open Go.RowKit
def ckS (x : Sup) (a q : Int) : Sup := { x with gen := x.gen + 1, head := a, seq := q }
theorem ckS_f (x : Sup) (a q : Int) : (ckS x a q).gen = x.gen + 1 ∧ (ckS x a q).epoch = x.epoch ∧ (ckS x a q).pages = x.pages ∧ (ckS x a q).start = x.start ∧ (ckS x a q).len = x.len ∧ (ckS x a q).head = a ∧ (ckS x a q).seq = q := ⟨rfl, rfl, rfl, rfl, rfl, rfl, rfl⟩
theorem Sup.ok_mk {s : Sup} {n : Int} (h1 : 0 ≤ s.gen ∧ s.gen ≤ 1099511627776) (h2 : 0 ≤ s.epoch ∧ s.epoch ≤ 1099511627776) (h3 : 16 ≤ s.pages ∧ s.pages ≤ 1024) (h4 : 2 + s.pages ≤ s.start ∧ s.start ≤ 1099511627776) (h5 : 64 ≤ s.len ∧ s.len ≤ 1099511627776) (h6 : 0 ≤ s.head ∧ s.head < s.len) (h7 : 0 ≤ s.seq ∧ s.seq ≤ 1099511627776) (h8 : s.start ≤ n - s.len ∧ s.len ≤ n) : s.Ok n := by
  refine ⟨fun y hy => ?_, by omega, by omega, by omega, by omega, by omega, by omega, by omega⟩
  simp only [Sup.list, List.mem_cons, List.not_mem_nil, or_false] at hy
  omega
theorem settle2_c (ps pd pt md : Nat) (x : Sup) (lp mo : Value) (un : Bool) (f : Pgs) (hq : Hp) (y : Sup) (D : Dsk) (hfb : ∀ n, (f n).isSome = true → n < 1024) (hfn : ∀ n, (f n).isSome = true → 2 + n < D.n) (hoky : y.Ok (D.n : Int)) (hver : ∀ i, (D.ver i).length ≤ 1000000000000) :
    Cn Tryz.prog 66 [.pointer (some ⟨ps, 0, none⟩), .agg #[.int .i64 y.gen, .int .i64 y.epoch, .int .i64 y.pages, .int .i64 y.start, .int .i64 y.len, .int .i64 y.head, .int .i64 y.seq]] [stB ps pd pt x lp md un mo, tblA pt, diskA pd D, pgsA md f hq, poolA hq] (fun v Γ => (∃ ks : List Int, KsOk f ks ∧ v = .int .i64 0 ∧ Γ = [stB ps pd pt y lp md un mo, tblA pt, diskA pd (svD (hwD D (pgLst f ks)).fl y), pgsA md noPgs hq, poolA hq]) ∨ (∃ (ks : List Int) (c : Int) (D2 : Dsk), KsOk f ks ∧ c ≠ 0 ∧ SetF D (pgLst f ks) c D2 ∧ v = .int .i64 c ∧ Γ = [stB ps pd pt x lp md un mo, tblA pt, diskA pd D2, pgsA md f hq, poolA hq])) := by
  refine Cn.mono (settle_c ps pd pt md x lp mo un f hq y D hfb hfn hoky hver) ?_
  rintro v Γ ⟨ks, hks, ⟨h1, h2⟩ | ⟨c, D2, h1, h2, h3, h4⟩⟩
  · exact .inl ⟨ks, hks, h1, h2⟩
  · exact .inr ⟨ks, c, D2, hks, h1, h2, h3, h4⟩
theorem setF_n {D D2 : Dsk} {l : List (Nat × Pg)} {c : Int} (h : SetF D l c D2) : D2.n = D.n := by
  rcases h with ⟨j, _, _, rfl⟩ | ⟨_, _, rfl⟩ | ⟨_, _, rfl⟩
  · exact hw_n _ _
  · exact hw_n _ _
  · exact hw_n _ _
theorem setF_len {D D2 : Dsk} {l : List (Nat × Pg)} {c : Int} (hn : (l.map Prod.fst).Nodup) (h : SetF D l c D2) (i : Nat) : (D2.ver i).length ≤ (D.ver i).length + 1 := by
  rcases h with ⟨j, _, _, rfl⟩ | ⟨_, _, rfl⟩ | ⟨_, _, rfl⟩
  · exact hw_len _ D i (hn.sublist ((List.take_sublist _ _).map _))
  · exact hw_len _ D i hn
  · show ([] : List (List UInt8)).length ≤ _; simp
theorem sv_ver {D : Dsk} (h : ∀ i, D.ver i = []) (x : Sup) (i : Nat) : (svD D x).ver i = [] := by
  by_cases e : i = (x.gen % 2).toNat
  · rw [e]; exact (sv_here D x).2
  · rw [(sv_out D x i e).2]; exact h i
theorem room_pos {b : Bool} {l u : Int} (h : (0 : Int) < (if b then 0 else l - u)) : b = false ∧ u < l := by
  cases b with
  | true => rw [if_pos rfl] at h; omega
  | false => rw [if_neg (by decide)] at h; exact ⟨rfl, by omega⟩
theorem PgsIn.nil_iff {f : Pgs} {es : List PgE} {clk : Nat} {hq : Hp} (h : PgsIn f es clk hq) : es.length = 0 ↔ ∀ n, f n = Option.none := by
  constructor
  · intro e n
    obtain rfl := List.length_eq_zero_iff.1 e
    cases hf : f n with
    | none => rfl
    | some p => obtain ⟨e, he, _⟩ := h.all n p hf; cases he
  · intro hf
    cases es with
    | nil => rfl
    | cons e es =>
      have := (h.ent e (by simp)).1
      rw [hf] at this; cases this
set_option maxHeartbeats 2000000 in
theorem checkpoint_c (ps pd pt pl md : Nat) (x sL : Sup) (mo : Value) (un nu : Bool) (hq : Hp) (D : Dsk) (B : Nat → Pg) (rs : List Rc) (ptl : List (List UInt8)) (a q u : Int) (b : Bool) (sure : Nat) (hS : SInv D x B rs ptl a q u b sure) (hL : sL.start = x.start ∧ sL.len = x.len ∧ sL.epoch = x.epoch) (hqb : q ≤ 1099511627776) (hver : ∀ i, (D.ver i).length ≤ 1000000000000) : Cn Tryz.prog 92 [.pointer (some ⟨ps, 0, none⟩)] [stB ps pd pt x (.pointer (some ⟨pl, 0, none⟩)) md un mo, lgB pl pd pt sL a q u b nu, tblA pt, diskA pd D, pgsA md (ov rs) hq, poolA hq] (fun v Γ => ((∀ n, ov rs n = none) ∧ b = false ∧ u < x.len ∧ v = .int .i64 0 ∧ Γ = [stB ps pd pt x (.pointer (some ⟨pl, 0, none⟩)) md un mo, lgB pl pd pt sL a q u b nu, tblA pt, diskA pd D, pgsA md (ov rs) hq, poolA hq]) ∨ (∃ D2 : Dsk, ¬ ((∀ n, ov rs n = none) ∧ b = false ∧ u < x.len) ∧ SInv D2 (ckS x a q) (pgMap (ov rs) B) [] [] a q 0 false 0 ∧ (Clean D → Clean D2) ∧ D2.n = D.n ∧ (∀ i, D2.ver i = []) ∧ v = .int .i64 0 ∧ Γ = [stB ps pd pt (ckS x a q) (.pointer (some ⟨pl, 0, none⟩)) md un mo, lgB pl pd pt sL a q 0 false nu, tblA pt, diskA pd D2, pgsA md noPgs hq, poolA hq]) ∨ (∃ (c : Int) (D2 : Dsk) (sure2 : Nat), c ≠ 0 ∧ (¬ Clean D ∨ 1099511627776 < x.gen + 1) ∧ (SInv D2 x B rs ptl a q u b sure2 ∧ sure ≤ sure2) ∧ D2.n = D.n ∧ (∀ i, (D2.ver i).length ≤ (D.ver i).length + 1) ∧ v = .int .i64 c ∧ Γ = [stB ps pd pt x (.pointer (some ⟨pl, 0, none⟩)) md un mo, lgB pl pd pt sL a q u b nu, tblA pt, diskA pd D2, pgsA md (ov rs) hq, poolA hq])) := by
 intro z R w H'; have H : Sep z (stB ps pd pt x (.pointer (some ⟨pl, 0, none⟩)) md un mo :: lgB pl pd pt sL a q u b nu :: tblA pt :: diskA pd D :: pgsA md (ov rs) hq :: poolA hq :: R) w := H'
 clear H'; have hok := hS.ok
 have hsg := Sup.get hok
 have hk2 := hok.2
 have hP := hS.p
 have hpa := hP.at_ok hS.s
 have hul := hP.ul
 have hfu := hP.fu
 have hgen := hS.gen
 have hfq := hP.fq
 have hsq := hS.s.seq
 have hq0 : 0 ≤ q := by split at hfq <;> omega
 have hhd := hS.s.head
 have hfbb : ∀ n, (ov rs n).isSome = true → n < 1024 := fun n h => by have := hS.ovb h; omega
 have hfnn : ∀ n, (ov rs n).isSome = true → 2 + n < D.n := fun n h => by have := hS.ovb h; omega
 have hn2d := H.says 3 rfl (fun h q => (diskA.ok q).n2)
 have hsLl := hL.2.1
 have hcy := ckS_f x a q
 obtain ⟨es, clk, hpg, H'⟩ := H.pgs 4 rfl; clear H; have H := H'.l6; clear H'; refine enter Tryz.func92 rfl 60 Tryz.ntmps92 rfl (k_seq (s_region (s_M 1 rfl rfl (s_end (k_seq (k_seq (s_region (s_L 4 [10, 0] (mm1 (H.blk 0 rfl) mm0) rfl (by kernel_rfl) rfl (s_do rfl rfl rfl (d_lenM (e := 65) rfl (by kernel_rfl) rfl (here (H.bk 4 rfl))) (s_M 2 rfl rfl (s_part 12 rfl (fun h1 => ?_) (fun h1 => ?_))))))))))))
 ·refine s_L 4 [9, 0] (mm1 (H.blk 0 rfl) mm0) rfl (by kernel_rfl) rfl (s_C rfl rfl rfl rfl rfl (fun w => Tryz.call128 _ w) (room_c _ _ _ _ _ _ _ _ _ (by omega)) H.f1 rfl ?_); rintro _ w _ ⟨rfl, rfl⟩ H'; have H := H'.l6; clear H'; refine s_M 2 rfl rfl (s_end (k_dec rfl (fun h2 => ?_) (fun h2 => ?_)))
  ·refine k_seq (s_region (s_M 1 rfl rfl (s_end (k_ret (doneL rfl [.int .i64 0] ⟨rfl, trivial⟩ (v := .int .i64 0) rfl ?_))))); have H' := H.toPgs 4 rfl hpg
   have H := H'.l6; clear H'; have hn0 := hpg.nil_iff.1 (by simpa using h1)
   exact ⟨[stB ps pd pt x (.pointer (some ⟨pl, 0, none⟩)) md un mo, lgB pl pd pt sL a q u b nu, tblA pt, diskA pd D, pgsA md (ov rs) hq, poolA hq], .inl ⟨hn0, (room_pos h2).1, by have := (room_pos h2).2; omega, rfl, rfl⟩, H.perm 6 [1, 0, 2, 3, 4, 5] rfl rfl⟩
  ·refine k_skip (k_seq (s_region (s_Q 3 [2] rfl (by kernel_rfl) (s_do rfl rfl rfl (d_loadAgg rfl rfl (vs := [.int .i64 x.gen, .int .i64 x.epoch, .int .i64 x.pages, .int .i64 x.start, .int .i64 x.len, .int .i64 x.head, .int .i64 x.seq]) (by kernel_rfl) (here ((H.blk 1 rfl).part 2 7 _ rfl))) (s_go rfl rfl rfl (n_alloc (P := Tryz.prog) H rfl (zs := [.int .i64 0, .int .i64 0, .int .i64 0, .int .i64 0, .int .i64 0, .int .i64 0, .int .i64 0]) (by kernel_rfl)) ?_))))); rintro _ w ⟨b1, rfl, H'⟩; have H := H'.l7; clear H'; refine s_put rfl rfl (n_store 0 H rfl rfl rfl rfl (vs := [.int .i64 x.gen, .int .i64 x.epoch, .int .i64 x.pages, .int .i64 x.start, .int .i64 x.len, .int .i64 x.head, .int .i64 x.seq]) rfl (by simp [u8, u32, Value.oneCell']) (by kernel_rfl) (by simp) (out := [.int .i64 x.gen, .int .i64 x.epoch, .int .i64 x.pages, .int .i64 x.start, .int .i64 x.len, .int .i64 x.head, .int .i64 x.seq]) rfl) ?_; rintro w H'; have H := H'.l7; clear H'; refine s_end (k_seq (s_region (s_L 2 [0, 0] (mm1 (H.blk 0 rfl) mm0) rfl (by kernel_rfl) rfl (s_do rfl rfl rfl (d_add64 rfl rfl rfl (r := x.gen + 1) (by omega) (by omega)) (s_Q 1 [0] rfl (by kernel_rfl) (s_put rfl rfl (n_store 0 H rfl rfl rfl rfl (vs := [.int .i64 (x.gen + 1)]) rfl (by simp [u8, u32, Value.oneCell']) (by kernel_rfl) (by simp) (out := [.int .i64 (x.gen + 1), .int .i64 x.epoch, .int .i64 x.pages, .int .i64 x.start, .int .i64 x.len, .int .i64 x.head, .int .i64 x.seq]) rfl) ?_)))))); rintro w H'; have H := H'.l7; clear H'; refine s_end (k_seq (s_region (s_L 4 [9, 0] (mm1 (H.blk 2 rfl) mm0) rfl (by kernel_rfl) rfl (s_C rfl rfl rfl rfl rfl (fun w => Tryz.call129 _ w) (tail_c _ _ _ _ _ _ _ _ _) H.f1 rfl ?_))))
   rintro _ w _ ⟨rfl, rfl⟩ H'; have H := H'.l7; clear H'; refine s_Q 4 [5] rfl (by kernel_rfl) (s_put rfl rfl (n_store 1 H rfl rfl rfl rfl (vs := [.int .i64 a]) rfl (by simp [u8, u32, Value.oneCell']) (by kernel_rfl) (by simp) (out := [.int .i64 (x.gen + 1), .int .i64 x.epoch, .int .i64 x.pages, .int .i64 x.start, .int .i64 x.len, .int .i64 a, .int .i64 x.seq]) rfl) ?_); rintro w H'; have H := H'.l7; clear H'; refine s_Q 1 [6] rfl (by kernel_rfl) (s_put rfl rfl (n_store 1 H rfl rfl rfl rfl (vs := [.int .i64 q]) rfl (by simp [u8, u32, Value.oneCell']) (by kernel_rfl) (by simp) (out := [.int .i64 (x.gen + 1), .int .i64 x.epoch, .int .i64 x.pages, .int .i64 x.start, .int .i64 x.len, .int .i64 a, .int .i64 q]) rfl) ?_); rintro w H'; have H := H'.l7; clear H'; refine s_end (k_seq (k_seq (s_region (s_L 3 [0, 0] (mm1 (H.blk 1 rfl) mm0) rfl (by kernel_rfl) rfl (s_end (k_dec rfl (fun h3 => ?_) (fun h3 => ?_)))))))
   ·refine k_seq (s_region (s_M 1 rfl rfl (s_end (k_ret (doneL rfl [.int .i64 15] ⟨rfl, trivial⟩ (v := .int .i64 15) rfl ?_))))); have H' := H.toPgs 5 rfl hpg
    have H := H'.l7; clear H'; exact ⟨[stB ps pd pt x (.pointer (some ⟨pl, 0, none⟩)) md un mo, lgB pl pd pt sL a q u b nu, tblA pt, diskA pd D, pgsA md (ov rs) hq, poolA hq], .inr (.inr ⟨_, D, sure, by decide, .inr (by omega), ⟨hS, Nat.le_refl _⟩, rfl, fun i => by omega, rfl, rfl⟩), H.perm 7 [2, 0, 3, 4, 5, 6] rfl rfl⟩
   ·refine k_skip (k_seq (k_seq ?_)); have hoky : (ckS x a q).Ok (D.n : Int) := Sup.ok_mk (by omega) (by omega) (by omega) (by omega) (by omega) (by omega) (by omega) (by omega)
    refine s_region (s_L 4 [0, 0] (mm1 (H.blk 2 rfl) mm0) rfl (by kernel_rfl) rfl (s_C rfl rfl rfl rfl rfl (fun w => Tryz.call60 _ w) (flush_c _ _) H.f4 rfl ?_)); rintro _ w _ (⟨hfb_, rfl, rfl⟩ | ⟨hfb_, rfl, rfl⟩) H'
    ·have H := H'.l7; clear H'; refine s_M 1 rfl rfl (s_end (k_seq (s_region (s_M 2 rfl rfl (k_updA 47 (u := .bool (decide ((12 : Int) ≠ 0))) (v := .bool true) rfl (congrArg Value.bool (by decide)) (s_end (k_true rfl (k_seq (s_region (s_M 2 rfl rfl (s_end (k_ret (doneL rfl [.int .i64 12] ⟨rfl, trivial⟩ (v := .int .i64 12) rfl ?_))))))))))))); have H' := H.toPgs 5 rfl hpg
     have H := H'.l7; clear H'; exact ⟨[stB ps pd pt x (.pointer (some ⟨pl, 0, none⟩)) md un mo, lgB pl pd pt sL a q u b nu, tblA pt, diskA pd ({ D with f3 := tick D.f3 }), pgsA md (ov rs) hq, poolA hq], .inr (.inr ⟨_, _, sure, by decide, .inl (fun hc => hc.flb hfb_), ⟨SInv.f (D' := { D with f3 := tick D.f3 }) hS rfl rfl rfl, Nat.le_refl _⟩, rfl, fun i => by show (D.ver i).length ≤ _; omega, rfl, rfl⟩), H.perm 7 [3, 1, 4, 0, 5, 6] rfl rfl⟩
    ·have H := H'.l7; clear H'; refine s_M 1 rfl rfl (s_end (k_seq (s_region (s_M 2 rfl rfl (k_updA 47 (u := .bool (decide ((0 : Int) ≠ 0))) (v := .bool false) rfl (congrArg Value.bool (by decide)) (s_end (k_false rfl (k_skip (k_seq (k_seq ?_)))))))))); have H' := H.toPgs 5 rfl hpg
     have H := H'.l7; clear H'; refine s_region (s_M 1 rfl rfl (s_do rfl rfl rfl (d_loadAgg rfl rfl (vs := [.int .i64 (x.gen + 1), .int .i64 x.epoch, .int .i64 x.pages, .int .i64 x.start, .int .i64 x.len, .int .i64 a, .int .i64 q]) (by kernel_rfl) (here ((H.blk 2 rfl).part 0 7 _ rfl))) (s_C rfl rfl rfl rfl rfl (fun w => Tryz.call66 _ w) (settle2_c _ _ _ _ _ _ _ _ (ov rs) _ (ckS x a q) D.fl hfbb hfnn hoky (fun i => by show ([] : List (List UInt8)).length ≤ _; simp)) H.f6.f6.f2.f6.f6 rfl ?_))); rintro _ w _ (⟨ks, hks, rfl, rfl⟩ | ⟨ks, c, D2, hks, hcne, hsf, rfl, rfl⟩) H'
     ·have H := H'.l7; clear H'; refine s_M 1 rfl rfl (s_end (k_seq (s_region (s_M 2 rfl rfl (k_updA 53 (u := .bool (decide ((0 : Int) ≠ 0))) (v := .bool false) rfl (congrArg Value.bool (by decide)) (s_end (k_false rfl (k_skip (k_seq (s_region (s_L 4 [9, 0] (mm1 (H.blk 0 rfl) mm0) rfl (by kernel_rfl) rfl (s_C rfl rfl rfl rfl rfl (fun w => Tryz.call130 _ w) (drop_c _ _ _ _ _ _ _ _ _) H.f5 rfl ?_)))))))))))); rintro _ w _ ⟨rfl, rfl⟩ H'; have H := H'.l7; clear H'; refine s_end (k_seq (s_region (s_M 1 rfl rfl (s_end (k_ret (doneL rfl [.int .i64 0] ⟨rfl, trivial⟩ (v := .int .i64 0) rfl ?_)))))); exact ⟨[blk ps [.pointer (some ⟨pd, 0, none⟩), .pointer (some ⟨pt, 0, none⟩), .int .i64 (x.gen + 1), .int .i64 x.epoch, .int .i64 x.pages, .int .i64 x.start, .int .i64 x.len, .int .i64 a, .int .i64 q, .pointer (some ⟨pl, 0, none⟩), .map (some md), .bool un, mo] 108, lgB pl pd pt sL a q 0 false nu, tblA pt, diskA pd (svD (hwD D.fl (pgLst (ov rs) ks)).fl (ckS x a q)), pgsA md noPgs hq, poolA hq], .inr (.inl ⟨_, (fun e => by first | exact h1 (by have := hpg.nil_iff.2 e.1; simpa using this) | exact h2 (by rw [e.2.1]; simp; omega)), hS.flush.settled hks (by omega) hoky rfl rfl rfl rfl rfl rfl rfl, fun hc => ((hc.fl.hw _).fl).sv _, by show (hwD _ _).n = _; exact hw_n _ _, sv_ver (fun _ => rfl) _, rfl, rfl⟩), H.perm 7 [1, 0, 2, 3, 4, 5] rfl rfl⟩
     ·have H := H'.l7; clear H'; refine s_M 1 rfl rfl (s_end (k_seq (s_region (s_M 2 rfl rfl (s_end (k_dec rfl (fun h4 => ?_) (fun h4 => ?_)))))))
      ·refine k_seq (s_region (s_M 2 rfl rfl (s_end (k_ret (doneL rfl [.int .i64 c] ⟨rfl, trivial⟩ (v := .int .i64 c) rfl ?_))))); exact ⟨[stB ps pd pt x (.pointer (some ⟨pl, 0, none⟩)) md un mo, lgB pl pd pt sL a q u b nu, tblA pt, diskA pd D2, pgsA md (ov rs) hq, poolA hq], .inr (.inr ⟨_, D2, rs.length, hcne, .inl (fun hc => hc.fl.setF hsf), ⟨hS.flush.setF hks hsf, hP.sure⟩, setF_n (D := D.fl) hsf, fun i => by have := setF_len (pgLst_nodup hks) hsf i; have h0 : (D.fl.ver i).length = 0 := rfl; omega, rfl, rfl⟩), H.perm 7 [0, 5, 1, 2, 3, 4] rfl rfl⟩
      ·exact absurd hcne h4
 ·refine s_M 7 rfl rfl (s_end (k_false rfl (k_skip (k_seq (s_region (s_Q 3 [2] rfl (by kernel_rfl) (s_do rfl rfl rfl (d_loadAgg rfl rfl (vs := [.int .i64 x.gen, .int .i64 x.epoch, .int .i64 x.pages, .int .i64 x.start, .int .i64 x.len, .int .i64 x.head, .int .i64 x.seq]) (by kernel_rfl) (here ((H.blk 0 rfl).part 2 7 _ rfl))) (s_go rfl rfl rfl (n_alloc (P := Tryz.prog) H rfl (zs := [.int .i64 0, .int .i64 0, .int .i64 0, .int .i64 0, .int .i64 0, .int .i64 0, .int .i64 0]) (by kernel_rfl)) ?_)))))))); rintro _ w ⟨b2, rfl, H'⟩; have H := H'.l7; clear H'; refine s_put rfl rfl (n_store 0 H rfl rfl rfl rfl (vs := [.int .i64 x.gen, .int .i64 x.epoch, .int .i64 x.pages, .int .i64 x.start, .int .i64 x.len, .int .i64 x.head, .int .i64 x.seq]) rfl (by simp [u8, u32, Value.oneCell']) (by kernel_rfl) (by simp) (out := [.int .i64 x.gen, .int .i64 x.epoch, .int .i64 x.pages, .int .i64 x.start, .int .i64 x.len, .int .i64 x.head, .int .i64 x.seq]) rfl) ?_; rintro w H'; have H := H'.l7; clear H'; refine s_end (k_seq (s_region (s_L 2 [0, 0] (mm1 (H.blk 0 rfl) mm0) rfl (by kernel_rfl) rfl (s_do rfl rfl rfl (d_add64 rfl rfl rfl (r := x.gen + 1) (by omega) (by omega)) (s_Q 1 [0] rfl (by kernel_rfl) (s_put rfl rfl (n_store 0 H rfl rfl rfl rfl (vs := [.int .i64 (x.gen + 1)]) rfl (by simp [u8, u32, Value.oneCell']) (by kernel_rfl) (by simp) (out := [.int .i64 (x.gen + 1), .int .i64 x.epoch, .int .i64 x.pages, .int .i64 x.start, .int .i64 x.len, .int .i64 x.head, .int .i64 x.seq]) rfl) ?_)))))); rintro w H'; have H := H'.l7; clear H'; refine s_end (k_seq (s_region (s_L 4 [9, 0] (mm1 (H.blk 1 rfl) mm0) rfl (by kernel_rfl) rfl (s_C rfl rfl rfl rfl rfl (fun w => Tryz.call129 _ w) (tail_c _ _ _ _ _ _ _ _ _) H.f2 rfl ?_))))
  rintro _ w _ ⟨rfl, rfl⟩ H'; have H := H'.l7; clear H'; refine s_Q 4 [5] rfl (by kernel_rfl) (s_put rfl rfl (n_store 1 H rfl rfl rfl rfl (vs := [.int .i64 a]) rfl (by simp [u8, u32, Value.oneCell']) (by kernel_rfl) (by simp) (out := [.int .i64 (x.gen + 1), .int .i64 x.epoch, .int .i64 x.pages, .int .i64 x.start, .int .i64 x.len, .int .i64 a, .int .i64 x.seq]) rfl) ?_); rintro w H'; have H := H'.l7; clear H'; refine s_Q 1 [6] rfl (by kernel_rfl) (s_put rfl rfl (n_store 1 H rfl rfl rfl rfl (vs := [.int .i64 q]) rfl (by simp [u8, u32, Value.oneCell']) (by kernel_rfl) (by simp) (out := [.int .i64 (x.gen + 1), .int .i64 x.epoch, .int .i64 x.pages, .int .i64 x.start, .int .i64 x.len, .int .i64 a, .int .i64 q]) rfl) ?_); rintro w H'; have H := H'.l7; clear H'; refine s_end (k_seq (k_seq (s_region (s_L 3 [0, 0] (mm1 (H.blk 1 rfl) mm0) rfl (by kernel_rfl) rfl (s_end (k_dec rfl (fun h5 => ?_) (fun h5 => ?_)))))))
  ·refine k_seq (s_region (s_M 1 rfl rfl (s_end (k_ret (doneL rfl [.int .i64 15] ⟨rfl, trivial⟩ (v := .int .i64 15) rfl ?_))))); have H' := H.toPgs 5 rfl hpg
   have H := H'.l7; clear H'; exact ⟨[stB ps pd pt x (.pointer (some ⟨pl, 0, none⟩)) md un mo, lgB pl pd pt sL a q u b nu, tblA pt, diskA pd D, pgsA md (ov rs) hq, poolA hq], .inr (.inr ⟨_, D, sure, by decide, .inr (by omega), ⟨hS, Nat.le_refl _⟩, rfl, fun i => by omega, rfl, rfl⟩), H.perm 7 [2, 0, 3, 4, 5, 6] rfl rfl⟩
  ·refine k_skip (k_seq (k_seq ?_)); have hoky : (ckS x a q).Ok (D.n : Int) := Sup.ok_mk (by omega) (by omega) (by omega) (by omega) (by omega) (by omega) (by omega) (by omega)
   refine s_region (s_L 4 [0, 0] (mm1 (H.blk 2 rfl) mm0) rfl (by kernel_rfl) rfl (s_C rfl rfl rfl rfl rfl (fun w => Tryz.call60 _ w) (flush_c _ _) H.f4 rfl ?_)); rintro _ w _ (⟨hfb_, rfl, rfl⟩ | ⟨hfb_, rfl, rfl⟩) H'
   ·have H := H'.l7; clear H'; refine s_M 1 rfl rfl (s_end (k_seq (s_region (s_M 2 rfl rfl (k_updA 47 (u := .bool (decide ((12 : Int) ≠ 0))) (v := .bool true) rfl (congrArg Value.bool (by decide)) (s_end (k_true rfl (k_seq (s_region (s_M 2 rfl rfl (s_end (k_ret (doneL rfl [.int .i64 12] ⟨rfl, trivial⟩ (v := .int .i64 12) rfl ?_))))))))))))); have H' := H.toPgs 5 rfl hpg
    have H := H'.l7; clear H'; exact ⟨[stB ps pd pt x (.pointer (some ⟨pl, 0, none⟩)) md un mo, lgB pl pd pt sL a q u b nu, tblA pt, diskA pd ({ D with f3 := tick D.f3 }), pgsA md (ov rs) hq, poolA hq], .inr (.inr ⟨_, _, sure, by decide, .inl (fun hc => hc.flb hfb_), ⟨SInv.f (D' := { D with f3 := tick D.f3 }) hS rfl rfl rfl, Nat.le_refl _⟩, rfl, fun i => by show (D.ver i).length ≤ _; omega, rfl, rfl⟩), H.perm 7 [3, 1, 4, 0, 5, 6] rfl rfl⟩
   ·have H := H'.l7; clear H'; refine s_M 1 rfl rfl (s_end (k_seq (s_region (s_M 2 rfl rfl (k_updA 47 (u := .bool (decide ((0 : Int) ≠ 0))) (v := .bool false) rfl (congrArg Value.bool (by decide)) (s_end (k_false rfl (k_skip (k_seq (k_seq ?_)))))))))); have H' := H.toPgs 5 rfl hpg
    have H := H'.l7; clear H'; refine s_region (s_M 1 rfl rfl (s_do rfl rfl rfl (d_loadAgg rfl rfl (vs := [.int .i64 (x.gen + 1), .int .i64 x.epoch, .int .i64 x.pages, .int .i64 x.start, .int .i64 x.len, .int .i64 a, .int .i64 q]) (by kernel_rfl) (here ((H.blk 2 rfl).part 0 7 _ rfl))) (s_C rfl rfl rfl rfl rfl (fun w => Tryz.call66 _ w) (settle2_c _ _ _ _ _ _ _ _ (ov rs) _ (ckS x a q) D.fl hfbb hfnn hoky (fun i => by show ([] : List (List UInt8)).length ≤ _; simp)) H.f6.f6.f2.f6.f6 rfl ?_))); rintro _ w _ (⟨ks, hks, rfl, rfl⟩ | ⟨ks, c, D2, hks, hcne, hsf, rfl, rfl⟩) H'
    ·have H := H'.l7; clear H'; refine s_M 1 rfl rfl (s_end (k_seq (s_region (s_M 2 rfl rfl (k_updA 53 (u := .bool (decide ((0 : Int) ≠ 0))) (v := .bool false) rfl (congrArg Value.bool (by decide)) (s_end (k_false rfl (k_skip (k_seq (s_region (s_L 4 [9, 0] (mm1 (H.blk 0 rfl) mm0) rfl (by kernel_rfl) rfl (s_C rfl rfl rfl rfl rfl (fun w => Tryz.call130 _ w) (drop_c _ _ _ _ _ _ _ _ _) H.f5 rfl ?_)))))))))))); rintro _ w _ ⟨rfl, rfl⟩ H'; have H := H'.l7; clear H'; refine s_end (k_seq (s_region (s_M 1 rfl rfl (s_end (k_ret (doneL rfl [.int .i64 0] ⟨rfl, trivial⟩ (v := .int .i64 0) rfl ?_)))))); exact ⟨[blk ps [.pointer (some ⟨pd, 0, none⟩), .pointer (some ⟨pt, 0, none⟩), .int .i64 (x.gen + 1), .int .i64 x.epoch, .int .i64 x.pages, .int .i64 x.start, .int .i64 x.len, .int .i64 a, .int .i64 q, .pointer (some ⟨pl, 0, none⟩), .map (some md), .bool un, mo] 108, lgB pl pd pt sL a q 0 false nu, tblA pt, diskA pd (svD (hwD D.fl (pgLst (ov rs) ks)).fl (ckS x a q)), pgsA md noPgs hq, poolA hq], .inr (.inl ⟨_, (fun e => by first | exact h1 (by have := hpg.nil_iff.2 e.1; simpa using this) | exact h2 (by rw [e.2.1]; simp; omega)), hS.flush.settled hks (by omega) hoky rfl rfl rfl rfl rfl rfl rfl, fun hc => ((hc.fl.hw _).fl).sv _, by show (hwD _ _).n = _; exact hw_n _ _, sv_ver (fun _ => rfl) _, rfl, rfl⟩), H.perm 7 [1, 0, 2, 3, 4, 5] rfl rfl⟩
    ·have H := H'.l7; clear H'; refine s_M 1 rfl rfl (s_end (k_seq (s_region (s_M 2 rfl rfl (s_end (k_dec rfl (fun h6 => ?_) (fun h6 => ?_)))))))
     ·refine k_seq (s_region (s_M 2 rfl rfl (s_end (k_ret (doneL rfl [.int .i64 c] ⟨rfl, trivial⟩ (v := .int .i64 c) rfl ?_))))); exact ⟨[stB ps pd pt x (.pointer (some ⟨pl, 0, none⟩)) md un mo, lgB pl pd pt sL a q u b nu, tblA pt, diskA pd D2, pgsA md (ov rs) hq, poolA hq], .inr (.inr ⟨_, D2, rs.length, hcne, .inl (fun hc => hc.fl.setF hsf), ⟨hS.flush.setF hks hsf, hP.sure⟩, setF_n (D := D.fl) hsf, fun i => by have := setF_len (pgLst_nodup hks) hsf i; have h0 : (D.fl.ver i).length = 0 := rfl; omega, rfl, rfl⟩), H.perm 7 [0, 5, 1, 2, 3, 4] rfl rfl⟩
     ·exact absurd hcne h6
end Go.Proofs.YtbegkbjigbkljaaGreatDoor
namespace Go.Proofs.YtbegkbjigbkljaaGreatDoor
open Go.RowKit
def pgImgs (g : Pgs) (ks : List Int) : List Img := ks.map fun k => ⟨k, ((g k.toNat).getD noPg).kind, ((g k.toNat).getD noPg).body⟩
theorem pgImgs_len (g : Pgs) (ks : List Int) : (pgImgs g ks).length = ks.length := by simp [pgImgs]
theorem pgImgs_snoc {g : Pgs} {ks : List Int} {j n : Nat} {p : Pg} (hj : ks[j]? = some (n : Int)) (hg : g n = some p) : (pgImgs g ks).take j ++ [(⟨(n : Int), p.kind, p.body⟩ : Img)] = (pgImgs g ks).take (j + 1) := by
  rw [List.take_add_one]
  congr 1
  unfold pgImgs
  rw [List.getElem?_map, hj]
  simp [hg]
theorem PgsIn.okp {f : Pgs} {es : List PgE} {clk : Nat} {hq : Hp} (h : PgsIn f es clk hq) {n : Nat} {p : Pg} (hp : f n = some p) : p.Ok := by
  obtain ⟨e, he, hn⟩ := h.all n p hp
  obtain ⟨h1, h2, _⟩ := h.ent e he
  rw [hn, hp] at h1
  cases h1; exact h2
theorem pgImgs_ok {g : Pgs} {ks : List Int} (h : KsOk g ks) (hg : ∀ n p, g n = some p → p.Ok) (hb : ∀ n, (g n).isSome = true → n < 1024) : recOK (pgImgs g ks) := by
  have hmem : ∀ k ∈ ks, ∃ p, g k.toNat = some p ∧ 0 ≤ k ∧ k < 1024 := fun k hk => by
    obtain ⟨h1, h2⟩ := (h.2 k).1 hk
    obtain ⟨p, hp⟩ := Option.isSome_iff_exists.1 h2
    have := hb _ h2
    exact ⟨p, hp, h1, by omega⟩
  refine ⟨fun m hm => ?_, ?_⟩
  · obtain ⟨k, hk, rfl⟩ := List.mem_map.1 hm
    obtain ⟨p, hp, h1, h2⟩ := hmem k hk
    have := hg _ p hp
    simp only [hp, Option.getD_some]
    exact ⟨⟨h1, by dsimp only; omega⟩, this.1, this.2⟩
  · unfold pgImgs
    rw [List.map_map]
    refine List.pairwise_map.2 (h.1.imp fun hab => ?_)
    simp only [Function.comp_apply]; omega
theorem pgImgs_num {g : Pgs} {ks : List Int} {b : Int} (h : KsOk g ks) (hb : ∀ n, (g n).isSome = true → (n : Int) < b) : ∀ m ∈ pgImgs g ks, m.num < b := fun m hm => by
  obtain ⟨k, hk, rfl⟩ := List.mem_map.1 hm
  obtain ⟨h1, h2⟩ := (h.2 k).1 hk
  have := hb _ h2
  dsimp only; omega
theorem code15 {c : Int} {ims : List Img} {room : Prop} (h : codeP c ims room) (h1 : 1 ≤ ims.length ∧ ims.length ≤ 40) (h2 : recOK ims) : c = 15 ∧ ¬ room := by
  rcases h with ⟨_, h⟩ | ⟨_, _, rfl | h⟩ | ⟨rfl, _, _, h⟩
  · omega
  · simp at h1
  · exact absurd h2 h
  · exact ⟨rfl, h⟩
theorem ovI_all (ims : List Img) : ∀ (f : Pgs) (n : Nat), (ims.map Img.num).Nodup → (∀ m ∈ ims, 0 ≤ m.num) → ovI f ims n = ((ims.find? fun m => decide (m.num = (n : Int))).map imPg).or (f n) := by
  induction ims with
  | nil => intro f n _ _; rfl
  | cons m ims ih =>
    intro f n hn hp
    simp only [List.map_cons, List.nodup_cons] at hn
    have : ovI f (m :: ims) = ovI (pgSet f m.num.toNat (imPg m)) ims := rfl
    rw [this, ih _ _ hn.2 (fun m' hm => hp m' (by simp [hm])), List.find?_cons]
    have hm0 := hp m (by simp)
    by_cases e : m.num = (n : Int)
    · have hno : (ims.find? fun m => decide (m.num = (n : Int))) = none := by
        rw [List.find?_eq_none]
        intro m' hm' e'
        exact hn.1 (List.mem_map.2 ⟨m', hm', by simp at e'; omega⟩)
      rw [hno]
      simp [e, pgSet]
    · have : ¬ n = m.num.toNat := by omega
      simp [e, pgSet, this]
theorem ovI_pgImgs {f g : Pgs} {ks : List Int} (h : KsOk g ks) (hr : recOK (pgImgs g ks)) : ovI f (pgImgs g ks) = pgOv f g := by
  funext n
  rw [ovI_all _ _ _ hr.2 (fun m hm => (hr.1 m hm).1.1)]
  unfold pgOv
  congr 1
  cases hg : g n with
  | some p =>
    have hk : (n : Int) ∈ ks := (h.2 _).2 ⟨by omega, by rw [Int.toNat_natCast, hg]; rfl⟩
    cases hf : (pgImgs g ks).find? fun m => decide (m.num = (n : Int)) with
    | none =>
      rw [List.find?_eq_none] at hf
      exact absurd (by simp) (hf _ (List.mem_map.2 ⟨(n : Int), hk, rfl⟩))
    | some m =>
      have h1 := List.find?_some hf
      obtain ⟨k, hk2, rfl⟩ := List.mem_map.1 (List.mem_of_find?_eq_some hf)
      simp only [decide_eq_true_eq] at h1
      subst h1
      simp [hg, imPg]
  | none =>
    have hf : ((pgImgs g ks).find? fun m => decide (m.num = (n : Int))) = none := by
      rw [List.find?_eq_none]
      intro m hm e
      obtain ⟨k, hk2, rfl⟩ := List.mem_map.1 hm
      simp only [decide_eq_true_eq] at e
      subst e
      have := ((h.2 _).1 hk2).2
      rw [Int.toNat_natCast, hg] at this; cases this
    rw [hf]; rfl
theorem ov_none {rs : List Rc} (h : ∀ n, ov rs n = none) (hr : ∀ (j : Nat) (r : Rc), rs[j]? = some r → 1 ≤ r.ims.length) : rs = [] := by
  cases rs with
  | nil => rfl
  | cons r rs =>
    exfalso
    have h1 := hr 0 r rfl
    have h2 : (ov [r] ((r.ims[0]'(by omega)).num.toNat)).isSome = true := by
      show (ovI noPgs r.ims _).isSome = true
      rw [ovI_mem]
      simp only [noPgs, Option.isSome_none, Bool.false_or, List.any_eq_true]
      exact ⟨r.ims[0]'(by omega), List.getElem_mem _, by simp⟩
    have h3 := ov_app_isSome rs [r] h2
    rw [show [r] ++ rs = r :: rs from rfl, h] at h3
    cases h3
set_option maxHeartbeats 4000000 in
theorem sappend_c (ps pd pt pl md mo : Nat) (x sL : Sup) (un nu : Bool) (hq : Hp) (g : Pgs) (k : Nat) (D : Dsk) (B : Nat → Pg) (rs : List Rc) (ptl : List (List UInt8)) (a q u : Int) (b : Bool) (sure : Nat) (hS : SInv D x B rs ptl a q u b sure) (hL : sL.start = x.start ∧ sL.len = x.len ∧ sL.epoch = x.epoch) (hokL : sL.Ok (D.n : Int)) (hnu : nu = decide (sL.epoch < 4294967296)) (hqb : q < 1099511627775) (hver : ∀ i, (D.ver i).length ≤ 1000000000000) (hgb : ∀ n, (g n).isSome = true → (n : Int) < x.pages) (hk : 1 ≤ k ∧ k ≤ 40) : Cn Tryz.prog 56 [.pointer (some ⟨ps, 0, none⟩)] [stB ps pd pt x (.pointer (some ⟨pl, 0, none⟩)) md un (.map (some mo)), lgB pl pd pt sL a q u b nu, tblA pt, diskA pd D, pgsA md (ov rs) hq, pgsC mo g k hq, poolA hq] (fun v Γ => (∃ (ks : List Int) (hq2 : Hp) (D2 : Dsk) (x2 : Sup) (B2 : Nat → Pg) (rs0 : List Rc) (a2 u2 : Int) (sure2 : Nat), KsOk g ks ∧ subH hq hq2 ∧ SInv D2 x2 B2 (rs0 ++ [⟨q, pgImgs g ks⟩]) [] a2 (q + 1) u2 false sure2 ∧ pgMap (ov rs0) B2 = pgMap (ov rs) B ∧ (x2 = x ∨ x2 = ckS x a q) ∧ (Clean D → Clean D2) ∧ (D2.n = D.n ∧ ∀ i, (D2.ver i).length ≤ (D.ver i).length + 2) ∧ v = .int .i64 0 ∧ Γ = [stB ps pd pt x2 (.pointer (some ⟨pl, 0, none⟩)) md un (.map (some mo)), lgB pl pd pt sL a2 (q + 1) u2 false nu, tblA pt, diskA pd D2, pgsA md (ov rs0) hq2, pgsC mo g k hq2, poolA hq2]) ∨ (∃ (c : Int) (hq2 : Hp) (D2 : Dsk) (x2 : Sup) (B2 : Nat → Pg) (rs2 : List Rc) (ptl2 : List (List UInt8)) (a2 q2 u2 : Int) (b2 : Bool) (sure2 : Nat), c ≠ 0 ∧ (¬ Clean D ∨ 1099511627776 < x.gen + 1) ∧ subH hq hq2 ∧ SInv D2 x2 B2 rs2 ptl2 a2 q2 u2 b2 sure2 ∧ pgMap (ov rs2) B2 = pgMap (ov rs) B ∧ (x2 = x ∨ x2 = ckS x a q) ∧ (D2.n = D.n ∧ ∀ i, (D2.ver i).length ≤ (D.ver i).length + 2) ∧ (q ≤ q2 ∧ q2 ≤ q + 1) ∧ v = .int .i64 c ∧ Γ = [stB ps pd pt x2 (.pointer (some ⟨pl, 0, none⟩)) md un (.map (some mo)), lgB pl pd pt sL a2 q2 u2 b2 nu, tblA pt, diskA pd D2, pgsA md (ov rs2) hq2, pgsC mo g k hq2, poolA hq2])) := by
 intro z R w H'; have H : Sep z (stB ps pd pt x (.pointer (some ⟨pl, 0, none⟩)) md un (.map (some mo)) :: lgB pl pd pt sL a q u b nu :: tblA pt :: diskA pd D :: pgsA md (ov rs) hq :: pgsC mo g k hq :: poolA hq :: R) w := H'
 clear H'; have hok := hS.ok
 have hsg := Sup.get hok
 have hk2 := hok.2
 have hP := hS.p
 have hpa := hP.at_ok hS.s
 have hul := hP.ul
 have hfu := hP.fu
 have hgen := hS.gen
 have hfq := hP.fq
 have hsq := hS.s.seq
 have hq0 : 0 ≤ q := by split at hfq <;> omega
 have hhd := hS.s.head
 have hfbb : ∀ n, (ov rs n).isSome = true → n < 1024 := fun n h => by have := hS.ovb h; omega
 have hfnn : ∀ n, (ov rs n).isSome = true → 2 + n < D.n := fun n h => by have := hS.ovb h; omega
 have hn2d := H.says 3 rfl (fun h q => (diskA.ok q).n2)
 have hsLl := hL.2.1
 have hcy := ckS_f x a q
 obtain ⟨eso, clko, hpgo, hcno, H'⟩ := H.pgsc 5 rfl; clear H; have H := H'.l7; clear H'; have hsz : eso.length ≤ 1099511627776 := by omega
 refine enter Tryz.func56 rfl 54 Tryz.ntmps56 rfl (k_seq (s_region (s_M 1 rfl rfl (s_end (k_seq (s_region (s_M 1 rfl rfl (s_end (k_seq (k_seq (s_region (s_L 4 [12, 0] (mm1 (H.blk 0 rfl) mm0) rfl (by kernel_rfl) rfl (s_C rfl rfl rfl rfl rfl (fun w => Tryz.call91 _ w) (keysP_c _) H rfl ?_))))))))))))); rintro _ w _ ⟨bb, rfl, rfl⟩ H'; have H := H'.l8; clear H'; have hmm : ∀ h : IE → Nat, (eso.map PgE.ie).map h = eso.map fun e => h e.ie := fun h => by simp
 refine s_C rfl rfl rfl rfl rfl (fun w => Tryz.call90 _ w) (sortedP_c _ _ _ _ (fun p hp => by obtain ⟨e, he, rfl⟩ := List.mem_map.1 hp; exact hpgo.clk e he) (by rw [hmm]; exact hpgo.born) (by simp; exact hsz)) H.f6.f1 rfl ?_; rintro v2 w _ ⟨s, hs, rfl⟩ H'; have H := H'.l9; clear H'; have hks : KsOk g ((s.map fun p : IE => p.1).mergeSort (fun x y => decide (x ≤ y))) := hpgo.keys hs
 have hlq : ((s.map fun p : IE => p.1).mergeSort (fun x y => decide (x ≤ y))).length = k := by simp [hs.length_eq, hcno]
 obtain ⟨ks, hkd⟩ : ∃ ks : List Int, ((s.map fun p : IE => p.1).mergeSort (fun x y => decide (x ≤ y))) = ks := ⟨_, rfl⟩; rw [hkd] at H hks hlq; clear hkd hs; have H : Sep z (grow 3 1 v2 ks.length (ks.map (Value.int .i64)) :: blk bb [.map (some mo)] 106 :: mapB mo (eso.map PgE.ie) clko :: stB ps pd pt x (.pointer (some ⟨pl, 0, none⟩)) md un (.map (some mo)) :: lgB pl pd pt sL a q u b nu :: tblA pt :: diskA pd D :: pgsA md (ov rs) hq :: poolA hq :: R) w := H
 have sv2 := H.says 0 rfl (fun h q => q.slc)
 have hksm := H.says 0 rfl (fun h q => q.rd.small)
 obtain ⟨ao3, c3, rfl⟩ := sv2; have H : Sep z (grow 3 1 (.slice ao3 ks.length c3) ks.length (ks.map (Value.int .i64)) :: blk bb [.map (some mo)] 106 :: mapB mo (eso.map PgE.ie) clko :: stB ps pd pt x (.pointer (some ⟨pl, 0, none⟩)) md un (.map (some mo)) :: lgB pl pd pt sL a q u b nu :: tblA pt :: diskA pd D :: pgsA md (ov rs) hq :: poolA hq :: R) w := H
 have H' := H.nilg 98 3
 have H := H'.l10; clear H'; have hil := pgImgs_len g ks
 have hgok : ∀ n p, g n = some p → p.Ok := fun n p h => hpgo.okp h
 have hgb2 : ∀ n, (g n).isSome = true → n < 1024 := fun n h => by have := hgb n h; omega
 have hrec : recOK (pgImgs g ks) := pgImgs_ok hks hgok hgb2
 have hnumI := pgImgs_num hks hgb
 have hik : 1 ≤ (pgImgs g ks).length ∧ (pgImgs g ks).length ≤ 40 := by omega
 refine s_do rfl rfl rfl (d_len rfl (z := 1) (by kernel_rfl) rfl) (s_M 1 rfl rfl (s_end (k_block ?_))); refine c_loop (σ := Nat × Value × List ImE) (fun ⟨j, v1, ie⟩ => [(15, .int .i64 (j : Int)), (3, v1), (0, .pointer (some ⟨ps, 0, none⟩)), (2, .int .i64 0), (13, .slice ao3 ks.length c3), (14, .int .i64 (ks.length : Int))])
   (fun ⟨j, v1, ie⟩ w => Sep z (grow 98 3 v1 j (imC ie) :: grow 3 1 (.slice ao3 ks.length c3) ks.length (ks.map (Value.int .i64)) :: blk bb [.map (some mo)] 106 :: mapB mo (eso.map PgE.ie) clko :: stB ps pd pt x (.pointer (some ⟨pl, 0, none⟩)) md un (.map (some mo)) :: lgB pl pd pt sL a q u b nu :: tblA pt :: diskA pd D :: pgsA md (ov rs) hq :: poolA hq :: R) w ∧ (j ≤ ks.length ∧ ie.map Prod.fst = (pgImgs g ks).take j ∧ imesOk ie hq)) (fun ⟨j, v1, ie⟩ => ks.length - j) ⟨0, .slice none 0 0, []⟩
   (fun _ hF => (hF.co rfl (by go_num) (hF.co rfl (by go_num) (hF.all rfl)))) ⟨H, by omega, rfl, fun e he => absurd he (by simp)⟩ ?_
 clear H; rintro ⟨j, v1, ie⟩ w ⟨H', hI⟩; dsimp only at hI H' ⊢
 have H := H'.l10; clear H'; have sv1 := H.says 0 rfl (fun h q => q.slc)
 obtain ⟨hjn, hies, hiok⟩ := hI; refine k_seq (s_region (s_M 1 rfl rfl (s_end (k_seq (k_dec rfl (fun h1 => ?_) (fun h1 => ?_))))))
 ·have hjlt : j < ks.length := by omega
  refine k_skip (k_seq (k_block (k_seq (s_region ?_)))); obtain ⟨x, hx⟩ : ∃ x, ks[j]? = some x := ⟨_, List.getElem?_eq_getElem (by omega)⟩; obtain ⟨hx0, hxs⟩ := (hks.2 x).1 (List.mem_of_getElem? hx); obtain ⟨n, rfl⟩ : ∃ n : Nat, x = (n : Int) := ⟨x.toNat, by omega⟩; rw [Int.toNat_natCast] at hxs; obtain ⟨p, pv, hfp, hpok, hpr, hgm⟩ : ∃ (p : Pg) (v : Value), g n = some p ∧ p.Ok ∧ rdH 1 v 240 (p.body.map u8) hq ∧ getM (eso.map PgE.ie) (n : Int) = some (.agg #[.int .i64 p.kind, v]) := by
    rcases hpgo.get n with ⟨q, _⟩ | q
    · rw [q] at hxs; cases hxs
    · exact q
  have spv : Slc pv 240 := hpr.slc
  have hat3 := (H.rd 1 rfl (fun h q => q.rd)).at (j := j) (u := .int .i64 (n : Int)) (by simp [hx])
  refine s_do rfl rfl rfl (d_indexE rfl (z := 1) (j := j) (r := j) (by kernel_rfl) rfl rfl rfl (by omega) hat3 (by omega)) (s_do rfl rfl rfl (d_loadE rfl rfl (by kernel_rfl) (here hat3)) (s_M 1 rfl rfl (s_end (s_region (s_L 7 [12, 0] (mm1 (H.blk 4 rfl) mm0) rfl (by kernel_rfl) rfl (s_do rfl rfl rfl (d_lookup (e := 65) (zv := .agg #[.int .i64 0, .slice none 0 0]) rfl (by kernel_rfl) (by kernel_rfl) rfl rfl (here (H.bk 3 rfl))) (k_updA 26 (u := (getM (eso.map PgE.ie) (n : Int)).getD (.agg #[.int .i64 0, .slice none 0 0])) (v := .agg #[.int .i64 p.kind, pv]) rfl (by rw [hgm]; rfl) (s_do rfl rfl rfl (d_build rfl rfl (out := [.int .i64 (n : Int), .int .i64 p.kind, pv]) (by kernel_rfl)) (s_go rfl rfl rfl (n_buildSlice H rfl (by kernel_rfl) (Elt.mk (P := Tryz.prog) (e := 98) (z := .agg #[.int .i64 0, .int .i64 0, .slice none 0 0]) (sz := 3) (by_ := 40) (by kernel_rfl) rfl (by omega) (by omega)) rfl (by decide) (by decide) (out := [.int .i64 (n : Int), .int .i64 p.kind, pv]) (by kernel_rfl)) ?_))))))))); rintro _ w ⟨b1, rfl, H'⟩; have H := H'.l11; clear H'; refine s_go rfl rfl rfl (n_append 1 H rfl rfl (by kernel_rfl) (Elt.mk (P := Tryz.prog) (e := 98) (z := .agg #[.int .i64 0, .int .i64 0, .slice none 0 0]) (sz := 3) (by_ := 40) (by kernel_rfl) rfl (by omega) (by omega)) rfl rfl (H.rd 0 rfl (fun h q => q.rd (by omega) (by omega) (by simp) rfl)) (one_cons rfl (one_cons rfl (one_cons spv.one one_nil))) (by omega)) ?_; rintro v2 w H'; have H' : Sep z (blk b1 [.int .i64 (n : Int), .int .i64 p.kind, pv] 98 :: grow 98 3 v2 (j + 1) (imC ie ++ [.int .i64 (n : Int), .int .i64 p.kind, pv]) :: grow 3 1 (.slice ao3 ks.length c3) ks.length (ks.map (Value.int .i64)) :: blk bb [.map (some mo)] 106 :: mapB mo (eso.map PgE.ie) clko :: stB ps pd pt x (.pointer (some ⟨pl, 0, none⟩)) md un (.map (some mo)) :: lgB pl pd pt sL a q u b nu :: tblA pt :: diskA pd D :: pgsA md (ov rs) hq :: poolA hq :: R) w := H'
  have ev2 : (imC ie ++ [.int .i64 (n : Int), .int .i64 p.kind, pv] : List Value) = imC (ie ++ [(⟨(n : Int), p.kind, p.body⟩, pv)]) := imC_snoc ie (⟨(n : Int), p.kind, p.body⟩, pv)
  rw [ev2] at H'; have H := H'.l11; clear H'; have sv2 := H.says 1 rfl (fun h q => q.slc)
  refine s_M 1 rfl rfl (s_end (s_region (s_do rfl rfl rfl (d_add64 rfl rfl rfl (r := (j : Int) + 1) (by omega) (by omega)) (s_M 1 rfl rfl (s_end ?_))))); replace H := H.d; intro _ hF; refine ⟨⟨j + 1, v2, ie ++ [(⟨(n : Int), p.kind, p.body⟩, pv)]⟩, (hF.co rfl (by go_num) (hF.all rfl)), ⟨H, ?_⟩, ?_⟩
  ·dsimp only
   refine ⟨by omega, by rw [List.map_append, hies, ← pgImgs_snoc hx hfp]; rfl, fun e he => ?_⟩; rcases List.mem_append.1 he with q | q
   ·exact hiok e q
   ·rw [List.mem_singleton.1 q]; show rdH 1 pv p.body.length _ _; rw [hpok.2]; exact hpr
  ·(dsimp only; omega)
 ·obtain rfl : j = ks.length := by omega
  refine k_exit (k_here (k_seq ?_)); replace H := H.f9; obtain ⟨hq2, ⟨shq2, hrd2⟩, H'⟩ := pool_rd H (fun h q => q.rd); clear H; have H := H'.l9; clear H'; have hies2 : ie.map Prod.fst = pgImgs g ks := by rw [hies]; exact List.take_of_length_le (by omega)
  have him : imgsH v1 (pgImgs g ks) hq2 := ⟨ie, hies2, by rw [hil]; exact hrd2, hiok.le shq2⟩
  have H' := H.mono 8 (B := pgsA md (ov rs) hq2) rfl (pgsA.le shq2)
  have H := H'.l9; clear H'; have hnut : nu = true := by rw [hnu]; have := hS.s.epoch; simp; omega
  refine s_region (s_L 5 [9, 0] (mm1 (H.blk 4 rfl) mm0) rfl (by kernel_rfl) rfl (s_C rfl rfl rfl rfl rfl (fun w => Tryz.call94 _ w) (appendQ_c _ _ _ sL x _ _ (pgImgs g ks) _ (fun h q => him.le q) D hS hnumI hL.1 hL.2.1 hL.2.2 hokL hnu ⟨hq0, by omega⟩ hver) H.f7.f7.f7 rfl ?_)); rintro _ w _ (⟨Da, a3, q3, u3, hl1, hrk, hS3, hbf, hcl3, hDa, hq3, hu3, rfl, rfl⟩ | ⟨cq, hcode, hv, rfl⟩ | ⟨Df, ptl2, hncl, hS3, hDf, rfl, rfl⟩) H'
  ·have H := H'.l9; clear H'; subst hq3; subst hu3; refine s_M 1 rfl rfl (s_end (k_seq (k_seq (s_region (s_M 2 rfl rfl (k_updA 38 (u := .bool (decide ((0 : Int) ≠ 15))) (v := .bool true) rfl (congrArg Value.bool (by decide)) (s_end (k_true rfl (k_seq (s_region (s_M 2 rfl rfl (s_end (k_ret ?_))))))))))))); refine doneL rfl [.int .i64 0] ⟨rfl, trivial⟩ (v := .int .i64 0) rfl ?_; have H' := H.toPgsc 6 rfl (hpgo.le shq2) hcno
   have H := H'.l9; clear H'; subst hbf; exact ⟨[stB ps pd pt x (.pointer (some ⟨pl, 0, none⟩)) md un (.map (some mo)), lgB pl pd pt sL a3 (q + 1) (u + (1 + ((pgImgs g ks).length : Int))) false nu, tblA pt, diskA pd Da, pgsA md (ov rs) hq2, pgsC mo g k hq2, poolA hq2], .inl ⟨ks, hq2, Da, x, B, rs, a3, _, sure, hks, shq2, hS3, rfl, .inl rfl, hcl3, hDa, rfl, rfl⟩, H.perm 9 [7, 0, 1, 2, 8, 6, 3] rfl rfl⟩
  ·have H := H'.l9; clear H'; obtain ⟨hc15, hnr⟩ := code15 hcode hik hrec; subst hc15; subst hv; refine s_M 1 rfl rfl (s_end (k_seq (k_seq (s_region (s_M 2 rfl rfl (k_updA 38 (u := .bool (decide ((15 : Int) ≠ 15))) (v := .bool false) rfl (congrArg Value.bool (by decide)) (s_end (k_false rfl (k_skip (k_seq (s_region (s_M 1 rfl rfl (s_C rfl rfl rfl rfl rfl (fun w => Tryz.call92 _ w) (checkpoint_c _ _ _ _ _ _ _ _ _ _ _ _ _ _ _ _ _ _ _ _ hS hL (by omega) hver) H.f3.f8.f4.f4.f4.f8 rfl ?_))))))))))))); rintro _ w _ (⟨hn0, hbf, hu64, rfl, rfl⟩ | ⟨D2, hne2, hS2, hcl2, hDn2, hv2, rfl, rfl⟩ | ⟨c3_, D2, sure2, hcne, hwhy, ⟨hS2, hsu2⟩, hDn2, hvl2, rfl, rfl⟩) H'
   ·(obtain rfl := ov_none hn0 (fun j r h => (hP.recs j r h).2.1.1); exact absurd ⟨by rw [hbf, if_neg (by decide)]; have hu0 : u = 0 := hfu; omega, hnut, by omega⟩ hnr)
   ·have H := H'.l9; clear H'; refine s_M 1 rfl rfl (s_end (k_seq (s_region (s_M 1 rfl rfl (s_end (k_block (k_seq (s_region (s_M 1 rfl rfl (k_updA 45 (u := .bool (decide ((0 : Int) = 0))) (v := .bool true) rfl (congrArg Value.bool (by decide)) (s_M 1 rfl rfl (s_end (k_true rfl ?_))))))))))))); refine k_seq (s_region (s_L 5 [9, 0] (mm1 (H.blk 0 rfl) mm0) rfl (by kernel_rfl) rfl (s_C rfl rfl rfl rfl rfl (fun w => Tryz.call94 _ w) (appendQ_c _ _ _ sL (ckS x a q) _ _ (pgImgs g ks) _ (fun h q => him.le q) D2 hS2 hnumI hL.1 hL.2.1 hL.2.2 (by rw [hDn2]; exact hokL) hnu ⟨hq0, by omega⟩ (fun i => by rw [hv2]; simp)) H.f5.f4.f4.f4 rfl ?_))); rintro _ w _ (⟨Da, a3, q3, u3, hl1, hrk, hS3, hbf, hcl3, hDa, hq3, hu3, rfl, rfl⟩ | ⟨cq, hcode, hv, rfl⟩ | ⟨Df, ptl2, hncl, hS3, hDf, rfl, rfl⟩) H'
    ·have H := H'.l9; clear H'; subst hq3; subst hu3; refine s_M 1 rfl rfl (s_end (k_ret (doneL rfl [.int .i64 0] ⟨rfl, trivial⟩ (v := .int .i64 0) rfl ?_))); have H' := H.toPgsc 8 rfl (hpgo.le shq2) hcno
     have H := H'.l9; clear H'; exact ⟨[stB ps pd pt (ckS x a q) (.pointer (some ⟨pl, 0, none⟩)) md un (.map (some mo)), lgB pl pd pt sL a3 (q + 1) (0 + (1 + ((pgImgs g ks).length : Int))) false nu, tblA pt, diskA pd Da, pgsA md noPgs hq2, pgsC mo g k hq2, poolA hq2], .inl ⟨ks, hq2, Da, _, _, [], a3, _, 0, hks, shq2, hS3, rfl, .inr rfl, fun hc => hcl3 (hcl2 hc), ⟨hDa.1.trans hDn2, fun i => by have h1 := hDa.2 i; rw [hv2] at h1; simp at h1; omega⟩, rfl, rfl⟩, H.perm 9 [4, 0, 1, 2, 5, 8, 3] rfl rfl⟩
    ·exact absurd ⟨by rw [if_neg (by decide)]; have := hcy.2.2.2.2.1; omega, hnut, by omega⟩ (code15 hcode hik hrec).2
    ·have H := H'.l9; clear H'; refine s_M 1 rfl rfl (s_end (k_ret (doneL rfl [.int .i64 11] ⟨rfl, trivial⟩ (v := .int .i64 11) rfl ?_))); have H' := H.toPgsc 8 rfl (hpgo.le shq2) hcno
     have H := H'.l9; clear H'; exact ⟨[stB ps pd pt (ckS x a q) (.pointer (some ⟨pl, 0, none⟩)) md un (.map (some mo)), lgB pl pd pt sL a (q + 1) 0 true nu, tblA pt, diskA pd Df, pgsA md noPgs hq2, pgsC mo g k hq2, poolA hq2], .inr ⟨_, hq2, Df, _, _, [], ptl2, a, q + 1, 0, true, 0, by decide, .inl (fun hc => hncl (hcl2 hc)), shq2, hS3, rfl, .inr rfl, ⟨hDf.1.trans hDn2, fun i => by have h1 := hDf.2 i; rw [hv2] at h1; simp at h1; omega⟩, by omega, rfl, rfl⟩, H.perm 9 [4, 0, 1, 2, 5, 8, 3] rfl rfl⟩
   ·have H := H'.l9; clear H'; refine s_M 1 rfl rfl (s_end (k_seq (s_region (s_M 1 rfl rfl (s_end (k_block (k_seq (s_region (s_M 2 rfl rfl (s_end (k_dec rfl (fun h2 => ?_) (fun h2 => ?_))))))))))))
    ·exact absurd h2 hcne
    ·refine k_seq (s_region (s_M 2 rfl rfl (s_end (k_dec rfl (fun h3 => ?_) (fun h3 => ?_)))))
     ·refine k_seq (s_region (s_M 1 rfl rfl (s_end (k_ret (doneL rfl [.int .i64 11] ⟨rfl, trivial⟩ (v := .int .i64 11) rfl ?_))))); have H' := H.toPgsc 8 rfl (hpgo.le shq2) hcno
      have H := H'.l9; clear H'; exact ⟨[stB ps pd pt x (.pointer (some ⟨pl, 0, none⟩)) md un (.map (some mo)), lgB pl pd pt sL a q u b nu, tblA pt, diskA pd D2, pgsA md (ov rs) hq2, pgsC mo g k hq2, poolA hq2], .inr ⟨_, hq2, D2, x, B, rs, ptl, a, q, u, b, sure2, by first | decide | exact hcne, hwhy, shq2, hS2, rfl, .inl rfl, ⟨hDn2, fun i => by have := hvl2 i; omega⟩, by omega, rfl, rfl⟩, H.perm 9 [0, 1, 2, 3, 4, 8, 5] rfl rfl⟩
     ·refine k_seq (s_region (s_M 2 rfl rfl (s_end (k_ret (doneL rfl [.int .i64 c3_] ⟨rfl, trivial⟩ (v := .int .i64 c3_) rfl ?_))))); have H' := H.toPgsc 8 rfl (hpgo.le shq2) hcno
      have H := H'.l9; clear H'; exact ⟨[stB ps pd pt x (.pointer (some ⟨pl, 0, none⟩)) md un (.map (some mo)), lgB pl pd pt sL a q u b nu, tblA pt, diskA pd D2, pgsA md (ov rs) hq2, pgsC mo g k hq2, poolA hq2], .inr ⟨_, hq2, D2, x, B, rs, ptl, a, q, u, b, sure2, by first | decide | exact hcne, hwhy, shq2, hS2, rfl, .inl rfl, ⟨hDn2, fun i => by have := hvl2 i; omega⟩, by omega, rfl, rfl⟩, H.perm 9 [0, 1, 2, 3, 4, 8, 5] rfl rfl⟩
  ·have H := H'.l9; clear H'; refine s_M 1 rfl rfl (s_end (k_seq (k_seq (s_region (s_M 2 rfl rfl (k_updA 38 (u := .bool (decide ((11 : Int) ≠ 15))) (v := .bool true) rfl (congrArg Value.bool (by decide)) (s_end (k_true rfl (k_seq (s_region (s_M 2 rfl rfl (s_end (k_ret ?_))))))))))))); refine doneL rfl [.int .i64 11] ⟨rfl, trivial⟩ (v := .int .i64 11) rfl ?_; have H' := H.toPgsc 6 rfl (hpgo.le shq2) hcno
   have H := H'.l9; clear H'; exact ⟨[stB ps pd pt x (.pointer (some ⟨pl, 0, none⟩)) md un (.map (some mo)), lgB pl pd pt sL a (q + 1) u true nu, tblA pt, diskA pd Df, pgsA md (ov rs) hq2, pgsC mo g k hq2, poolA hq2], .inr ⟨_, hq2, Df, x, B, rs, ptl2, a, q + 1, u, true, sure, by decide, .inl hncl, shq2, hS3, rfl, .inl rfl, hDf, by omega, rfl, rfl⟩, H.perm 9 [7, 0, 1, 2, 8, 6, 3] rfl rfl⟩
end Go.Proofs.YtbegkbjigbkljaaGreatDoor
namespace Go.Proofs.YtbegkbjigbkljaaGreatDoor
open Go.RowKit
def pgCp (f g : Pgs) (S : List IE) : Pgs := fun i => if (i : Int) ∈ S.map (fun p : IE => p.1) then g i else f i
theorem pgCp_nil (f g : Pgs) : pgCp f g [] = f := by funext i; simp [pgCp]
theorem pgCp_snoc {f g : Pgs} {S : List IE} {n : Nat} {p : Pg} {q : IE} (hq : q.1 = (n : Int)) (hg : g n = some p) : pgCp f g (S ++ [q]) = pgSet (pgCp f g S) n p := by
  funext i
  unfold pgCp pgSet
  simp only [List.map_append, List.map_cons, List.map_nil, List.mem_append, List.mem_singleton, hq]
  by_cases h : i = n
  · subst h; simp [hg]
  · have : ¬ ((i : Int) = (n : Int)) := by omega
    simp only [this, or_false, h, if_false]
theorem pgCp_all {f g : Pgs} {es : List PgE} {clk : Nat} {hq : Hp} {S : List IE} (h : PgsIn g es clk hq) (hf : leftL (es.map PgE.ie) (S.map fun p : IE => p.2.2) = []) (hS : ∀ p ∈ S, p ∈ es.map PgE.ie) : pgCp f g S = pgOv f g := by
  funext i
  unfold pgCp pgOv
  by_cases hi : (i : Int) ∈ S.map (fun p : IE => p.1)
  · rw [if_pos hi]
    obtain ⟨p, hp, e⟩ := List.mem_map.1 hi
    obtain ⟨e0, he0, rfl⟩ := List.mem_map.1 (hS p hp)
    have h1 := (h.ent e0 he0).1
    have : e0.n = i := by have : (e0.n : Int) = i := e; omega
    rw [this] at h1
    rw [h1]; rfl
  · rw [if_neg hi]
    cases hg : g i with
    | none => rfl
    | some p =>
      exfalso
      obtain ⟨e0, he0, hn⟩ := h.all i p hg
      have hm : e0.ie ∈ es.map PgE.ie := List.mem_map_of_mem he0
      by_cases q : e0.born ∈ S.map fun p : IE => p.2.2
      · obtain ⟨p', hp', hb⟩ := List.mem_map.1 q
        obtain ⟨e1, he1, rfl⟩ := List.mem_map.1 (hS p' hp')
        obtain ⟨i1, h1⟩ := List.getElem?_of_mem he0
        obtain ⟨i2, h2⟩ := List.getElem?_of_mem he1
        have := nodup_idx h.born h1 h2 hb.symm
        subst this
        rw [h1] at h2; cases h2
        exact hi (List.mem_map.2 ⟨_, hp', by show (e0.n : Int) = i; omega⟩)
      · have : e0.ie ∈ leftL (es.map PgE.ie) (S.map fun p : IE => p.2.2) := by
          simp only [leftL, List.mem_filter]
          exact ⟨hm, by simpa [PgE.ie] using q⟩
        rw [hf] at this; cases this
theorem pgMap_ov (f g : Pgs) (B : Nat → Pg) : pgMap (pgOv f g) B = fun i => (g i).getD (pgMap f B i) := by
  funext i
  unfold pgMap pgOv
  cases g i <;> rfl
theorem mcopy_c (md mo : Nat) (f g : Pgs) (k : Nat) (hq : Hp) : Cn Tryz.prog 57 [.map (some md), .map (some mo)] [pgsA md f hq, pgsC mo g k hq] (fun v Γ => v = .tuple #[] ∧ Γ = [pgsA md (pgOv f g) hq, pgsC mo g k hq]) := by
 intro z R w H'; have H : Sep z (pgsA md f hq :: pgsC mo g k hq :: R) w := H'
 clear H'; obtain ⟨es, clk, hpg, H'⟩ := H.pgs 0 rfl; clear H; have H := H'.l2; clear H'; obtain ⟨eso, clko, hpgo, hcno, H'⟩ := H.pgsc 1 rfl; clear H; have H := H'.l2; clear H'; have hold : ∀ p ∈ eso.map PgE.ie, p.2.2 < clko := fun p hp => by obtain ⟨e, he, rfl⟩ := List.mem_map.1 hp; exact hpgo.clk e he
 have hn : ((eso.map PgE.ie).map fun p : IE => p.2.2).Nodup := by rw [List.map_map]; exact hpgo.born
 refine enter Tryz.func57 rfl 16 Tryz.ntmps57 rfl (k_seq (s_region (s_M 1 rfl rfl (s_go rfl rfl rfl (n_range 1 (e := 65) H rfl rfl (by kernel_rfl) rfl) ?_)))); rintro _ w ⟨rr, rfl, H'⟩; have H := H'.l3; clear H'; refine s_end (k_block ?_); refine c_loop (σ := List IE × List PgE × Nat) (fun ⟨S, ed, cd⟩ => [(0, .map (some md)), (7, .pointer (some ⟨rr, 0, none⟩))])
   (fun ⟨S, ed, cd⟩ w => Sep z (itB rr mo clko (S.map fun p : IE => p.2.2) :: mapB md (ed.map PgE.ie) cd :: mapB mo (eso.map PgE.ie) clko :: R) w ∧ ((∀ p ∈ S, p ∈ eso.map PgE.ie) ∧ PgsIn (pgCp f g S) ed cd hq)) (fun ⟨S, ed, cd⟩ => (leftL (eso.map PgE.ie) (S.map fun p : IE => p.2.2)).length) ⟨[], es, clk⟩
   (fun _ hF => (hF.all rfl)) ⟨H, fun p hp => absurd hp (by simp), by rw [pgCp_nil]; exact hpg⟩ ?_
 clear H; rintro ⟨S, ed, cd⟩ w ⟨H', hI⟩; dsimp only at hI H' ⊢
 have H := H'.l3; clear H'; obtain ⟨hS, hpd⟩ := hI; refine k_seq (s_region (s_go rfl rfl rfl (n_next 0 2 H rfl rfl rfl rfl hold) ?_)); rintro _ w ⟨qx, rfl, hqx, H'⟩; have H := H'.l3; clear H'; refine s_do rfl rfl rfl (d_nx0 rfl rfl) (s_end (k_seq (k_cond rfl (fun h1 => ?_) (fun h1 => ?_))))
 ·obtain ⟨p1, rfl⟩ := Option.isSome_iff_exists.1 h1; refine k_skip (k_block (k_seq (s_region ?_))); obtain ⟨⟨ke, pg, ve, bo⟩, hee, rfl⟩ := List.mem_map.1 (leftL_mem hqx).1; obtain ⟨he1, he2, he3⟩ := hpgo.ent _ hee; dsimp only at he1 he2 he3
  have sve : Slc ve 240 := he3.slc
  obtain ⟨ed2, hpm, hpd2, _⟩ := hpd.put (k := ke) (p := pg) (v := ve) he2 he3; refine s_do rfl rfl rfl (d_entry (p := (PgE.ie ⟨ke, pg, ve, bo⟩)) rfl rfl (here ⟨H.bk 0 rfl, H.bk 2 rfl⟩) (List.mem_map_of_mem hee) hn) (s_M 2 rfl rfl (s_go rfl rfl rfl (n_alloc (P := Tryz.prog) H rfl (zs := [.int .i64 0, .slice none 0 0]) (by kernel_rfl)) ?_)); rintro _ w ⟨b1, rfl, H'⟩; have H := H'.l4; clear H'; refine s_M 1 rfl rfl (s_put rfl rfl (n_store 0 H rfl rfl rfl rfl (vs := [.int .i64 pg.kind, ve]) rfl (one_cons rfl (one_cons sve.one one_nil)) (by kernel_rfl) (by simp) (out := [.int .i64 pg.kind, ve]) rfl) ?_); rintro w H'; have H := H'.l4; clear H'; refine s_end (s_region (s_M 2 rfl rfl (s_do rfl rfl rfl (d_loadAgg rfl rfl (vs := [.int .i64 pg.kind, ve]) (by kernel_rfl) (here ((H.blk 0 rfl).part 0 2 _ rfl))) (s_put rfl rfl (n_mapUpdate 2 (e := 65) H rfl rfl (by kernel_rfl) rfl rfl rfl) ?_)))); rintro w H'; have H := H'.l4; clear H'; refine s_end ?_; have H' := H
  have H : Sep z (blk b1 [.int .i64 pg.kind, ve] 65 :: itB rr mo clko (nxS (S.map fun p : IE => p.2.2) (some (PgE.ie ⟨ke, pg, ve, bo⟩))) :: mapB md (putM (ed.map PgE.ie) (ke : Int) (.agg #[.int .i64 pg.kind, ve]) cd) (putC (ed.map PgE.ie) (ke : Int) cd) :: mapB mo (eso.map PgE.ie) clko :: R) w := H'
  clear H'; rw [hpm] at H; have H : Sep z (blk b1 [.int .i64 pg.kind, ve] 65 :: itB rr mo clko (nxS (S.map fun p : IE => p.2.2) (some (PgE.ie ⟨ke, pg, ve, bo⟩))) :: mapB md (ed2.map PgE.ie) (putC (ed.map PgE.ie) (ke : Int) cd) :: mapB mo (eso.map PgE.ie) clko :: R) w := H
  replace H := H.d; intro _ hF; refine ⟨⟨S ++ [(PgE.ie ⟨ke, pg, ve, bo⟩)], ed2, putC (ed.map PgE.ie) (ke : Int) cd⟩, (hF.all rfl), ⟨(by dsimp only; rw [List.map_append]; exact H), ?_⟩, ?_⟩
  ·refine ⟨fun p hp => ?_, ?_⟩
   ·rcases List.mem_append.1 hp with hp | hp
    ·exact hS p hp
    ·simp at hp; subst hp; exact List.mem_map_of_mem hee
   ·dsimp only; rw [pgCp_snoc (n := ke) (p := pg) (q := (PgE.ie ⟨ke, pg, ve, bo⟩)) rfl he1]; exact hpd2
  ·(dsimp only; have := leftL_less hqx; rwa [show (S ++ [(PgE.ie ⟨ke, pg, ve, bo⟩)]).map (fun p : IE => p.2.2) = (S.map fun p : IE => p.2.2) ++ [bo] from by simp [PgE.ie]])
 ·obtain rfl : qx = none := by simpa using h1
  refine k_exit (k_here (doneL rfl [] trivial (v := .tuple #[]) rfl ?_)); have hpd3 := hpd
  rw [pgCp_all hpgo hqx hS] at hpd3; have H' := H.toPgs 1 rfl hpd3
  have H := H'.l3; clear H'; have H' := H.toPgsc 2 rfl hpgo hcno
  have H := H'.l3; clear H'; exact ⟨[pgsA md (pgOv f g) hq, pgsC mo g k hq], ⟨rfl, rfl⟩, H.perm 3 [1, 2] rfl rfl⟩
theorem abort_d (ps pd pt md : Nat) (x : Sup) (lp mv : Value) (un : Bool) : CnD Tryz.prog 55 [.pointer (some ⟨ps, 0, none⟩)] [stB ps pd pt x lp md un mv] (fun v Γ => v = .tuple #[] ∧ Γ = [stB ps pd pt x lp md false (.map none)]) := by
 intro z R u w H'; have H : Sep z (stB ps pd pt x lp md un mv :: R) w := H'
 clear H'; refine enterD Tryz.func55 rfl 8 Tryz.ntmps55 rfl (s_region (s_Q 4 [11] rfl (by kernel_rfl) (s_put rfl rfl (n_store 0 H rfl rfl rfl rfl (vs := [.bool false]) rfl (by simp [u8, u32, Value.oneCell']) (by kernel_rfl) (by simp) (out := [.pointer (some ⟨pd, 0, none⟩), .pointer (some ⟨pt, 0, none⟩), .int .i64 x.gen, .int .i64 x.epoch, .int .i64 x.pages, .int .i64 x.start, .int .i64 x.len, .int .i64 x.head, .int .i64 x.seq, lp, .map (some md), .bool false, mv]) rfl) ?_))); rintro w H'; have H := H'.l1; clear H'; refine s_Q 2 [12] rfl (by kernel_rfl) (s_put rfl rfl (n_store 0 H rfl rfl rfl rfl (vs := [.map none]) rfl (by simp [u8, u32, Value.oneCell']) (by kernel_rfl) (by simp) (out := [.pointer (some ⟨pd, 0, none⟩), .pointer (some ⟨pt, 0, none⟩), .int .i64 x.gen, .int .i64 x.epoch, .int .i64 x.pages, .int .i64 x.start, .int .i64 x.len, .int .i64 x.head, .int .i64 x.seq, lp, .map (some md), .bool false, .map none]) rfl) ?_); rintro w H'; have H := H'.l1; clear H'; refine s_end (doneL rfl [] trivial (v := .tuple #[]) rfl ?_); exact ⟨[stB ps pd pt x lp md false (.map none)], ⟨rfl, rfl⟩, H⟩
end Go.Proofs.YtbegkbjigbkljaaGreatDoor
namespace Go.Proofs.YtbegkbjigbkljaaGreatDoor
open Go.RowKit
set_option maxHeartbeats 4000000 in
theorem commit_c (ps pd pt pl md mo : Nat) (x sL : Sup) (nu : Bool) (hq : Hp) (g : Pgs) (k : Nat) (D : Dsk) (B : Nat → Pg) (rs : List Rc) (ptl : List (List UInt8)) (a q u : Int) (b : Bool) (sure : Nat) (hS : SInv D x B rs ptl a q u b sure) (hL : sL.start = x.start ∧ sL.len = x.len ∧ sL.epoch = x.epoch) (hokL : sL.Ok (D.n : Int)) (hnu : nu = decide (sL.epoch < 4294967296)) (hqb : q < 1099511627775) (hver : ∀ i, (D.ver i).length ≤ 1000000000000) (hgb : ∀ n, (g n).isSome = true → (n : Int) < x.pages) (hk : k ≤ 40) : Cn Tryz.prog 21 [.pointer (some ⟨ps, 0, none⟩)] [stB ps pd pt x (.pointer (some ⟨pl, 0, none⟩)) md true (.map (some mo)), lgB pl pd pt sL a q u b nu, tblA pt, diskA pd D, pgsA md (ov rs) hq, pgsC mo g k hq, poolA hq] (fun v Γ => (k = 0 ∧ v = .int .i64 0 ∧ Γ = [stB ps pd pt x (.pointer (some ⟨pl, 0, none⟩)) md false (.map none), lgB pl pd pt sL a q u b nu, tblA pt, diskA pd D, pgsA md (ov rs) hq, poolA hq]) ∨ (1 ≤ k ∧ ∃ (hq2 : Hp) (D2 : Dsk) (x2 : Sup) (B2 : Nat → Pg) (rs2 : List Rc) (a2 u2 : Int) (sure2 : Nat), subH hq hq2 ∧ SInv D2 x2 B2 rs2 [] a2 (q + 1) u2 false sure2 ∧ (pgMap (ov rs2) B2 = pgMap (pgOv (ov rs) g) B ∧ ∀ n, (g n).isSome = true → (ov rs2 n).isSome = true) ∧ (x2 = x ∨ x2 = ckS x a q) ∧ (Clean D → Clean D2) ∧ (D2.n = D.n ∧ ∀ i, (D2.ver i).length ≤ (D.ver i).length + 2) ∧ v = .int .i64 0 ∧ Γ = [stB ps pd pt x2 (.pointer (some ⟨pl, 0, none⟩)) md false (.map none), lgB pl pd pt sL a2 (q + 1) u2 false nu, tblA pt, diskA pd D2, pgsA md (ov rs2) hq2, poolA hq2]) ∨ (1 ≤ k ∧ ∃ (c : Int) (hq2 : Hp) (D2 : Dsk) (x2 : Sup) (B2 : Nat → Pg) (rs2 : List Rc) (ptl2 : List (List UInt8)) (a2 q2 u2 : Int) (b2 : Bool) (sure2 : Nat), c ≠ 0 ∧ (¬ Clean D ∨ 1099511627776 < x.gen + 1) ∧ subH hq hq2 ∧ SInv D2 x2 B2 rs2 ptl2 a2 q2 u2 b2 sure2 ∧ pgMap (ov rs2) B2 = pgMap (ov rs) B ∧ (x2 = x ∨ x2 = ckS x a q) ∧ (D2.n = D.n ∧ ∀ i, (D2.ver i).length ≤ (D.ver i).length + 2) ∧ (q ≤ q2 ∧ q2 ≤ q + 1) ∧ v = .int .i64 c ∧ Γ = [stB ps pd pt x2 (.pointer (some ⟨pl, 0, none⟩)) md false (.map none), lgB pl pd pt sL a2 q2 u2 b2 nu, tblA pt, diskA pd D2, pgsA md (ov rs2) hq2, poolA hq2])) := by
 intro z R w H'; have H : Sep z (stB ps pd pt x (.pointer (some ⟨pl, 0, none⟩)) md true (.map (some mo)) :: lgB pl pd pt sL a q u b nu :: tblA pt :: diskA pd D :: pgsA md (ov rs) hq :: pgsC mo g k hq :: poolA hq :: R) w := H'
 clear H'; have hk2 := hS.ok.2
 have hgb2 : ∀ n, (g n).isSome = true → n < 1024 := fun n h => by have := hgb n h; omega
 obtain ⟨eso, clko, hpgo, hcno, H'⟩ := H.pgsc 5 rfl; clear H; have H := H'.l7; clear H'; have hgok : ∀ n p, g n = some p → p.Ok := fun n p h => hpgo.okp h
 have hlm : (eso.map PgE.ie).length = k := by simp [hcno]
 refine enterL Tryz.func21 rfl 30 Tryz.ntmps21 rfl (k_seq (s_region (s_M 1 rfl rfl (s_end (k_seq (k_seq (s_region (s_L 5 [11, 0] (mm1 (H.blk 0 rfl) mm0) rfl (by kernel_rfl) rfl (s_end (k_false rfl (k_skip (k_seq (s_region ?_))))))))))))); refine s_M 1 rfl rfl (s_defer rfl rfl rfl rfl (s_end (k_seq (k_seq (s_region (s_L 4 [12, 0] (mm1 (H.blk 0 rfl) mm0) rfl (by kernel_rfl) rfl (s_do rfl rfl rfl (d_lenM (e := 65) rfl (by kernel_rfl) rfl (here (H.bk 5 rfl))) (s_M 1 rfl rfl (s_end (k_dec rfl (fun h1 => ?_) (fun h1 => ?_)))))))))))
 ·refine k_seq (s_region (s_M 1 rfl rfl (s_end (k_ret ?_)))); intro a_ hF; unfold DoneL; rw [hF.defers]; refine leaves_C (fun w => Tryz.call55 _ w) (abort_d _ _ _ _ _ _ _ _) H 7 [0, 1, 2, 3, 4, 5, 6] rfl rfl ?_; rintro _ w _ ⟨rfl, rfl⟩ H'; clear H; have H := H'.l7; clear H'; refine doneV hF (rs := [.tmp 2]) rfl [.int .i64 0] ⟨rfl, trivial⟩ (v := .int .i64 0) rfl ?_; exact ⟨[stB ps pd pt x (.pointer (some ⟨pl, 0, none⟩)) md false (.map none), lgB pl pd pt sL a q u b nu, tblA pt, diskA pd D, pgsA md (ov rs) hq, poolA hq], .inl ⟨by omega, rfl, rfl⟩, H.perm 7 [0, 1, 2, 3, 4, 6] rfl rfl⟩
 ·refine k_skip (k_seq (k_seq ?_)); have hk0 : 1 ≤ k := by omega
  have H' := H.toPgsc 5 rfl hpgo hcno
  have H := H'.l7; clear H'; refine s_region (s_M 1 rfl rfl (s_C rfl rfl rfl rfl rfl (fun w => Tryz.call56 _ w) (sappend_c _ _ _ _ _ _ _ _ _ _ _ _ _ _ _ _ _ _ _ _ _ _ hS hL hokL hnu hqb hver hgb (by omega)) H rfl ?_)); rintro _ w _ (⟨ks, hq2, D2, x2, B2, rs0, a2, u2, sure2, hks, shq2, hS2, hM2, hx2, hcl2, hD2, rfl, rfl⟩ | ⟨c4, hq2, D2, x2, B2, rs2, ptl2, a2, q2, u2, bb2, sure2, hcne, hwhy, shq2, hS2, hM2, hx2, hD2, hqq2, rfl, rfl⟩) H'
  ·have H := H'.l7; clear H'; refine s_M 1 rfl rfl (s_end (k_seq (s_region (s_M 2 rfl rfl (k_updA 19 (u := .bool (decide ((0 : Int) ≠ 0))) (v := .bool false) rfl (congrArg Value.bool (by decide)) (s_end (k_false rfl (k_skip (k_seq (a_region (Sep z (stB ps pd pt x2 (.pointer (some ⟨pl, 0, none⟩)) md true (.map (some mo)) :: R)) 9 rfl (by kernel_rfl) (fun w' x' _ => ?_))))))))))); have H' := H.ext0 x'; clear x' H; revert H'; generalize w' = w; intro H'
   have H := H'.l7; clear H'; refine a_L [0, 1, 2, 3, 4, 5, 6, 7] [10, 0, 12, 0] (fun _ hx => (mm1 (hx.blk 0 rfl) mm0)) (by exact (H.pick 7 [0] rfl)) rfl (by kernel_rfl) rfl rfl (a_all [8] (by kernel_rfl) (by simp) (all1 (o_C rfl rfl rfl rfl rfl rfl (fun w => Tryz.call57 _ w) (mcopy_c _ _ _ _ _ _) H.f5.f5 rfl ?_))); rintro _ w _ ⟨rfl, rfl⟩ H'; have H := H'.l7; clear H'; refine a_and (H.pick 7 [2] rfl) (a_done (by kernel_rfl) (k_seq (s_region (s_M 1 rfl rfl (s_end (k_ret ?_)))))); intro a_ hF; unfold DoneL; rw [hF.defers]; refine leaves_C (fun w => Tryz.call55 _ w) (abort_d _ _ _ _ _ _ _ _) H 7 [2, 0, 1, 3, 4, 5, 6] rfl rfl ?_; rintro _ w _ ⟨rfl, rfl⟩ H'; clear H; have H := H'.l7; clear H'; refine doneV hF (rs := [.tmp 2]) rfl [.int .i64 0] ⟨rfl, trivial⟩ (v := .int .i64 0) rfl ?_; have hov : pgOv (ov rs0) g = ov (rs0 ++ [⟨q, pgImgs g ks⟩]) := by rw [ov_snoc, ovI_pgImgs hks (pgImgs_ok hks hgok hgb2)]
   rw [hov] at H; have H : Sep z (stB ps pd pt x2 (.pointer (some ⟨pl, 0, none⟩)) md false (.map none) :: pgsA md (ov (rs0 ++ [⟨q, pgImgs g ks⟩])) hq2 :: pgsC mo g k hq2 :: lgB pl pd pt sL a2 (q + 1) u2 false nu :: tblA pt :: diskA pd D2 :: poolA hq2 :: R) w := H
   exact ⟨[stB ps pd pt x2 (.pointer (some ⟨pl, 0, none⟩)) md false (.map none), lgB pl pd pt sL a2 (q + 1) u2 false nu, tblA pt, diskA pd D2, pgsA md (ov (rs0 ++ [⟨q, pgImgs g ks⟩])) hq2, poolA hq2], .inr (.inl ⟨hk0, hq2, D2, x2, B2, _, a2, u2, sure2, shq2, hS2, ⟨by rw [← hov, pgMap_ov, pgMap_ov, hM2], fun n hn => by rw [← hov]; obtain ⟨p_, hp_⟩ := Option.isSome_iff_exists.1 hn; simp [pgOv, hp_]⟩, hx2, hcl2, hD2, rfl, rfl⟩), H.perm 7 [0, 3, 4, 5, 1, 6] rfl rfl⟩
  ·have H := H'.l7; clear H'; refine s_M 1 rfl rfl (s_end (k_seq (s_region (s_M 2 rfl rfl (s_end (k_dec rfl (fun h2 => ?_) (fun h2 => ?_)))))))
   ·refine k_seq (s_region (s_M 2 rfl rfl (s_end (k_ret ?_)))); intro a_ hF; unfold DoneL; rw [hF.defers]; refine leaves_C (fun w => Tryz.call55 _ w) (abort_d _ _ _ _ _ _ _ _) H 7 [0, 1, 2, 3, 4, 5, 6] rfl rfl ?_; rintro _ w _ ⟨rfl, rfl⟩ H'; clear H; have H := H'.l7; clear H'; refine doneV hF (rs := [.tmp 2]) rfl [.int .i64 c4] ⟨rfl, trivial⟩ (v := .int .i64 c4) rfl ?_; exact ⟨[stB ps pd pt x2 (.pointer (some ⟨pl, 0, none⟩)) md false (.map none), lgB pl pd pt sL a2 q2 u2 bb2 nu, tblA pt, diskA pd D2, pgsA md (ov rs2) hq2, poolA hq2], .inr (.inr ⟨hk0, _, hq2, D2, x2, B2, rs2, ptl2, a2, q2, u2, bb2, sure2, hcne, hwhy, shq2, hS2, hM2, hx2, hD2, hqq2, rfl, rfl⟩), H.perm 7 [0, 1, 2, 3, 4, 6] rfl rfl⟩
   ·exact absurd hcne h2
end Go.Proofs.YtbegkbjigbkljaaGreatDoor
namespace Go.Proofs.YtbegkbjigbkljaaGreatDoor
def opS (x : Sup) : Sup := { x with gen := x.gen + 1, epoch := x.epoch + 1, head := 0, seq := 1 }
theorem opS_f (x : Sup) : (opS x).gen = x.gen + 1 ∧ (opS x).epoch = x.epoch + 1 ∧ (opS x).pages = x.pages ∧ (opS x).start = x.start ∧ (opS x).len = x.len ∧ (opS x).head = 0 ∧ (opS x).seq = 1 := ⟨rfl, rfl, rfl, rfl, rfl, rfl, rfl⟩
def Stops (D : Dsk) (s : Sup) (a q u : Int) : Prop := s.len ≤ u ∨ ∀ ims, ¬ nextP (stepF D s a) s.epoch q (s.len - u) ims
structure OInv (D : Dsk) (x : Sup) (B : Nat → Pg) (Gd : List Rc → Prop) : Prop where
  ok : x.Ok (D.n : Int)
  s : SOk x
  gen : 1 ≤ x.gen
  ver : ∀ i, D.ver i = []
  sup : D.dur (x.gen % 2).toNat = supS x
  oth : ∃ y : Sup, y.Ok (D.n : Int) ∧ y.gen = x.gen - 1 ∧ D.dur ((x.gen + 1) % 2).toNat = supS y
  tags : ∀ i : Nat, 2 + x.pages ≤ (i : Int) → ∀ e q, Tg (D.dur i) e q → e ≤ x.epoch
  read : ∀ (got : List Rc) (a q u : Int), Runs D x x.head x.seq 0 got a q u → Stops D x a q u → Gd got
  recs : ∀ got, Gd got → ∀ r ∈ got, (1 ≤ r.ims.length ∧ r.ims.length ≤ 40) ∧ ∀ m ∈ r.ims, m.Ok ∧ m.num < x.pages
  gd : ∀ got, Gd got → ∀ i : Nat, (i : Int) < x.pages → ov got i = none → HomeP (D.dur (2 + i)) i (B i)
theorem ov_take_le {rs : List Rc} {k m n : Nat} (hkm : k ≤ m) (h : (ov (rs.take k) n).isSome = true) : (ov (rs.take m) n).isSome = true := by
  have := ov_app_isSome ((rs.take m).drop k) _ (show (ov ((rs.take m).take k) n).isSome = true by rw [List.take_take, Nat.min_eq_left hkm]; exact h)
  rwa [List.take_append_drop] at this
theorem SInv.crashed {D D' : Dsk} {x : Sup} {B : Nat → Pg} {rs : List Rc} {ptl : List (List UInt8)} {a q u : Int} {b : Bool} {sure : Nat} (h : SInv D x B rs ptl a q u b sure) (hq : q ≤ 1099511627776) (hc : Crashed D D') : OInv D' x B (fun got => sure ≤ got.length ∧ got.length ≤ rs.length ∧ got = rs.take got.length) := by
  have hg := h.gen
  refine ⟨by rw [hc.n]; exact h.ok, h.s, hg, hc.ver, ?_, ?_, fun i hi e q' ht => h.tags hq hi (hc.dur i) ht, fun got a' q' u' hr hst => h.p.read h.s hc hq hr hst, fun got hgd r hr => ?_, fun got hgd i hi ho => ?_⟩
  · rcases hc.dur (x.gen % 2).toNat with g | g
    · rw [g]; exact h.sup.1
    · rw [h.sup.2] at g; cases g
  · obtain ⟨y, a, b, c, d⟩ := h.oth
    refine ⟨y, by rw [hc.n]; exact a, b, ?_⟩
    rcases hc.dur ((x.gen + 1) % 2).toNat with g | g
    · rw [g]; exact c
    · rw [d] at g; cases g
  · rw [hgd.2.2] at hr
    have hr2 := List.mem_of_mem_take hr
    obtain ⟨j, hj⟩ := List.getElem?_of_mem hr2
    obtain ⟨_, h2, h3⟩ := h.p.recs j r hj
    exact ⟨h2, fun m hm => ⟨h3 m hm, h.num r hr2 m hm⟩⟩
  · rcases h.home i hi _ (hc.dur _) with g | ⟨g, _⟩
    · exact g
    · have := ov_take_le hgd.1 g
      rw [← hgd.2.2, ho] at this; cases this
variable {D : Dsk} {x : Sup} {B : Nat → Pg} {Gd : List Rc → Prop}
theorem OInv.ovb (h : OInv D x B Gd) {got : List Rc} (hg : Gd got) {n : Nat} (ho : (ov got n).isSome = true) : (n : Int) < x.pages := by
  obtain ⟨p, hp⟩ := Option.isSome_iff_exists.1 ho
  obtain ⟨r, hr, m, hm, hn, _⟩ := ov_get _ got rfl hp
  have h1 := ((h.recs got hg r hr).2 m hm).2
  have h2 := h.ok.2
  omega
theorem OInv.ovok (h : OInv D x B Gd) {got : List Rc} (hg : Gd got) {n : Nat} {p : Pg} (ho : ov got n = some p) : p.Ok := by
  obtain ⟨r, hr, m, hm, _, rfl⟩ := ov_get _ got rfl ho
  exact imPg_ok ((h.recs got hg r hr).2 m hm).1
theorem OInv.opened (h : OInv D x B Gd) {got : List Rc} (hg : Gd got) {ks : List Int} (hks : KsOk (ov got) ks) (hy : (opS x).Ok (D.n : Int)) (he : x.epoch + 1 < 4294967296) :
    SInv (svD (hwD D (pgLst (ov got) ks)).fl (opS x)) (opS x) (pgMap (ov got) B) [] [] 0 1 0 false 0 := by
  have hk := h.ok.2
  have hgen := h.gen
  have hf := opS_f x
  have hss := h.s
  have hso : SOk (opS x) := ⟨by rw [hf.2.2.2.1]; exact hss.start, by have := hss.head; omega, by have := hss.epoch; omega, by omega⟩
  have hlb : ∀ y ∈ pgLst (ov got) ks, (y.1 : Int) < x.pages := fun y hy => h.ovb hg (by rw [(pgLst_mem hks y.1 y.2).1 hy]; rfl)
  have hhas : ∀ i c, Has (svD (hwD D (pgLst (ov got) ks)).fl (opS x)) i c → i ≠ ((opS x).gen % 2).toNat → c = (hwD D (pgLst (ov got) ks)).cont i := fun i c hc hi => by
    have ho := sv_out (hwD D (pgLst (ov got) ks)).fl (opS x) i hi
    unfold Has at hc
    rw [ho.1, ho.2] at hc
    rcases hc with hc | hc
    · exact hc
    · cases hc
  have hlow : ∀ i : Nat, i < 2 → (hwD D (pgLst (ov got) ks)).cont i = D.dur i := fun i hi => by
    rw [hw_cont_out _ D i (fun y _ e => by omega)]; exact cont_of (h.ver i)
  refine ⟨by show (opS x).Ok ((hwD D _).n : Int); rw [hw_n]; exact hy, ?_, hso, by omega, fun r hr => (by cases hr), fun i hi c hc => .inl ?_, sv_here _ _, ?_, fun i hi hr c hc e q' ht => ?_⟩
  · have := PInv.fresh (D := svD (hwD D (pgLst (ov got) ks)).fl (opS x)) hso (fun i h1 h2 c hc e q' ht => ?_)
    · rw [hf.2.2.2.2.2.1, hf.2.2.2.2.2.2] at this; exact this
    · have hi := hhas i c hc (by omega)
      rw [hw_cont_out _ D i (fun y hy e => by have := hlb y hy; omega), cont_of (h.ver i)] at hi
      subst hi
      have := h.tags i (by omega) e q' ht
      omega
  · have hi2 := hhas (2 + i) c hc (by omega)
    subst hi2
    unfold pgMap
    cases ho : ov got i with
    | some p =>
      have hm : (i, p) ∈ pgLst (ov got) ks := (pgLst_mem hks i p).2 ho
      rw [hw_in _ D (pgLst_nodup hks) (i, p) hm]
      exact .inr ⟨h.ovok hg ho, rfl⟩
    | none =>
      rw [hw_cont_out _ D _ (fun z hz e => by
        have := (pgLst_mem hks z.1 z.2).1 hz
        rw [show z.1 = i from by omega, ho] at this; cases this), cont_of (h.ver _)]
      exact h.gd got hg i (by omega) ho
  · refine ⟨x, by show x.Ok ((hwD D _).n : Int); rw [hw_n]; exact h.ok, by omega, ?_⟩
    have ho := sv_out (hwD D (pgLst (ov got) ks)).fl (opS x) (((opS x).gen + 1) % 2).toNat (by omega)
    refine ⟨?_, by rw [ho.2]; rfl⟩
    rw [ho.1]
    show (hwD D (pgLst (ov got) ks)).cont _ = _
    rw [hlow _ (by omega), show ((opS x).gen + 1) % 2 = x.gen % 2 from by omega]
    exact h.sup
  · have hi2 := hhas i c hc (by omega)
    rw [hw_cont_out _ D i (fun y hy e => by have := hlb y hy; omega), cont_of (h.ver i)] at hi2
    subst hi2
    have := h.tags i (by omega) e q' ht
    omega
/-! ### a formatted disk -/
def zhD (D : Dsk) : Nat → Dsk
  | 0 => D
  | k + 1 => (zhD D k).wr (2 + k) [List.replicate 256 0]
theorem zh_n (D : Dsk) : ∀ k, (zhD D k).n = D.n
  | 0 => rfl
  | k + 1 => by show ((zhD D k).wr _ _).n = _; rw [Dsk.wr_n]; exact zh_n D k
theorem zh_cont (n k i : Nat) : (zhD (newD n) k).cont i = List.replicate 256 0 := by
  induction k with
  | zero => rfl
  | succ k ih =>
    show ((zhD (newD n) k).wr _ _).cont i = _
    rw [wr_cont, ih]
    by_cases h : 2 + k ≤ i
    · rw [if_pos h]
      rcases Nat.eq_zero_or_pos (i - (2 + k)) with e | e
      · rw [e]; rfl
      · rw [List.getElem?_eq_none (by simp; omega)]; rfl
    · rw [if_neg h]; rfl
theorem zh_clean {D : Dsk} (h : Clean D) : ∀ k, Clean (zhD D k)
  | 0 => h
  | k + 1 => (zh_clean h k).wr _ _
theorem zh_len (n : Nat) (i : Nat) : ∀ k, ((zhD (newD n) k).ver i).length ≤ k
  | 0 => by simp [zhD, newD]
  | k + 1 => by
    have h1 := Dsk.wr_len (zhD (newD n) k) (2 + k) [List.replicate 256 0] i
    have h2 := zh_len n i k
    show (((zhD (newD n) k).wr _ _).ver i).length ≤ _
    omega
def fmS (p s l g : Int) : Sup := ⟨g, 1, p, s, l, 0, 1⟩
def fmD (n : Nat) (p s l : Int) : Dsk := svD (svD (zhD (newD n) p.toNat).fl (fmS p s l 1)) (fmS p s l 2)
theorem newD_clean (n : Nat) : Clean (newD n) := ⟨rfl, rfl, rfl, rfl⟩
theorem fm_clean (n : Nat) (p s l : Int) : Clean (fmD n p s l) := ((zh_clean (newD_clean n) _).fl.sv _).sv _
theorem fm_n (n : Nat) (p s l : Int) : (fmD n p s l).n = n := zh_n _ _
theorem fm_ver (n : Nat) (p s l : Int) (i : Nat) : (fmD n p s l).ver i = [] := sv_ver (sv_ver (fun _ => rfl) _) _ i
theorem fm_dur (n : Nat) (p s l : Int) (i : Nat) (hi : 2 ≤ i) : (fmD n p s l).dur i = List.replicate 256 0 := by
  have h1 := sv_out (svD (zhD (newD n) p.toNat).fl (fmS p s l 1)) (fmS p s l 2) i (by show i ≠ ((2 : Int) % 2).toNat; simp; omega)
  have h2 := sv_out (zhD (newD n) p.toNat).fl (fmS p s l 1) i (by show i ≠ ((1 : Int) % 2).toNat; simp; omega)
  exact (h1.1.trans h2.1).trans (zh_cont n _ i)
theorem fm_open {n : Nat} {p s l : Int} (hok : (fmS p s l 2).Ok (n : Int)) : OInv (fmD n p s l) (fmS p s l 2) (fun _ => noPg) (fun got => got = []) := by
  have hf : (fmS p s l 2).gen = 2 ∧ (fmS p s l 2).epoch = 1 ∧ (fmS p s l 2).pages = p ∧ (fmS p s l 2).start = s ∧ (fmS p s l 2).len = l ∧ (fmS p s l 2).head = 0 ∧ (fmS p s l 2).seq = 1 := ⟨rfl, rfl, rfl, rfl, rfl, rfl, rfl⟩
  have hg := Sup.get hok
  have hk := hok.2
  have hso : SOk (fmS p s l 2) := ⟨by omega, by omega, by omega, by omega⟩
  have hring : ∀ z : Int, (fmD n p s l).cont (ringAt (fmS p s l 2) z) = List.replicate 256 0 := fun z => by
    have := ring_in hso z
    rw [cont_of (fm_ver _ _ _ _ _)]
    exact fm_dur _ _ _ _ _ (by omega)
  refine ⟨by rw [fm_n]; exact hok, hso, by omega, fm_ver _ _ _ _, (sv_here _ _).1, ⟨fmS p s l 1, ?_, rfl, ?_⟩, fun i h1 e q ht => ?_, fun got a q u hr hst => ?_, fun got hg' r hr => ?_, fun got _ i hi _ => ?_⟩
  · rw [fm_n]
    exact Sup.ok_mk (by show 0 ≤ (1 : Int) ∧ (1 : Int) ≤ 1099511627776; omega) (by show 0 ≤ (1 : Int) ∧ (1 : Int) ≤ 1099511627776; omega) (by show 16 ≤ p ∧ p ≤ 1024; omega) (by show 2 + p ≤ s ∧ s ≤ 1099511627776; omega) (by show 64 ≤ l ∧ l ≤ 1099511627776; omega) (by show 0 ≤ (0 : Int) ∧ (0 : Int) < l; omega) (by show 0 ≤ (1 : Int) ∧ (1 : Int) ≤ 1099511627776; omega) (by show s ≤ n - l ∧ l ≤ n; omega)
  · have h1 := sv_out (svD (zhD (newD n) p.toNat).fl (fmS p s l 1)) (fmS p s l 2) 1 (by show 1 ≠ ((2 : Int) % 2).toNat; decide)
    exact h1.1.trans (sv_here (zhD (newD n) p.toNat).fl (fmS p s l 1)).1
  · rw [fm_dur _ _ _ _ _ (by omega)] at ht
    exact (zero_tag _ _ ht).elim
  · cases hr with
    | nil => rfl
    | snoc r hlt hn =>
      exfalso
      have h0 := hn.1
      have e : ∀ z, stepF (fmD n p s l) (fmS p s l 2) z 0 = List.replicate 256 0 := fun z => hring (z + ((0 : Nat) : Int))
      rw [e] at h0
      exact zero_head h0
  · subst hg'; cases hr
  · rw [fm_dur _ _ _ _ _ (by omega)]; exact .inl ⟨rfl, rfl⟩
end Go.Proofs.YtbegkbjigbkljaaGreatDoor
namespace Go.Proofs.YtbegkbjigbkljaaGreatDoor
open Go.RowKit
theorem OInv.two {D : Dsk} {x : Sup} {B : Nat → Pg} {Gd : List Rc → Prop} (h : OInv D x B Gd) : ∃ y0 y1 : Sup, y0.Ok (D.n : Int) ∧ y1.Ok (D.n : Int) ∧ y0.gen % 2 = 0 ∧ y1.gen % 2 = 1 ∧ D.cont 0 = supS y0 ∧ D.cont 1 = supS y1 ∧ x = if y0.gen < y1.gen then y1 else y0 := by
  obtain ⟨y, hy, hg, hd⟩ := h.oth
  have hs := h.sup
  have h1 := h.gen
  have c0 := cont_of (h.ver 0)
  have c1 := cont_of (h.ver 1)
  rcases (show x.gen % 2 = 0 ∨ x.gen % 2 = 1 by omega) with e | e
  · rw [show (x.gen % 2).toNat = 0 by omega] at hs
    rw [show ((x.gen + 1) % 2).toNat = 1 by omega] at hd
    exact ⟨x, y, h.ok, hy, e, by omega, c0.trans hs, c1.trans hd, by rw [if_neg (by omega)]⟩
  · rw [show (x.gen % 2).toNat = 1 by omega] at hs
    rw [show ((x.gen + 1) % 2).toNat = 0 by omega] at hd
    exact ⟨y, x, hy, h.ok, by omega, e, c0.trans hd, c1.trans hs, by rw [if_pos (by omega)]⟩
theorem opS_ok {x : Sup} {n : Int} (h : x.Ok n) (h1 : 1 ≤ x.gen) (hg : x.gen + 1 ≤ 1099511627776) (he : x.epoch + 1 ≤ 1099511627776) : (opS x).Ok n := by
  have hs := Sup.get h
  have hk := h.2
  have hf := opS_f x
  exact Sup.ok_mk (by omega) (by omega) (by omega) (by omega) (by omega) (by omega) (by omega) (by omega)
theorem ov_take_succ {rs : List Rc} {k : Nat} {r : Rc} (h : rs[k]? = some r) : ovI (ov (rs.take k)) r.ims = ov (rs.take (k + 1)) := by
  rw [List.take_add_one, h]
  exact (ov_snoc _ _).symm
theorem ovI_take_succ {f : Pgs} {ims : List Img} {k : Nat} {m : Img} (h : ims[k]? = some m) : pgSet (ovI f (ims.take k)) m.num.toNat (imPg m) = ovI f (ims.take (k + 1)) := by
  rw [List.take_add_one, h]
  exact (ovI_snoc _ _ _).symm
set_option maxHeartbeats 4000000 in
theorem sopen_c (pd : Nat) (D : Dsk) (x : Sup) (B : Nat → Pg) (Gd : List Rc → Prop) (hO : OInv D x B Gd) (hcl : Clean D) (hge : x.gen + 1 ≤ 1099511627776) (hep : x.epoch + 1 < 4294967296) : Cn Tryz.prog 26 [.pointer (some ⟨pd, 0, none⟩)] [diskA pd D] (fun v Γ => ∃ (ps pl pt md : Nat) (hq : Hp) (D2 : Dsk) (got : List Rc), Gd got ∧ SInv D2 (opS x) (pgMap (ov got) B) [] [] 0 1 0 false 0 ∧ Clean D2 ∧ D2.n = D.n ∧ (∀ i, D2.ver i = []) ∧ v = .tuple #[.pointer (some ⟨ps, 0, none⟩), .int .i64 0] ∧ Γ = [stB ps pd pt (opS x) (.pointer (some ⟨pl, 0, none⟩)) md false (.map none), lgB pl pd pt (opS x) 0 1 0 false (decide ((opS x).epoch < 4294967296)), tblA pt, diskA pd D2, pgsA md noPgs hq, poolA hq]) := by
 intro z R w H'; have H : Sep z (diskA pd D :: R) w := H'
 clear H'; obtain ⟨y0, y1, ho0, ho1, hp0, hp1, hc0, hc1, hxy⟩ := hO.two; have hok := hO.ok
 have hsg := Sup.get hok
 have hk2 := hok.2
 have hgen := hO.gen
 have hoky : (opS x).Ok (D.n : Int) := opS_ok hok hgen (by omega) (by omega)
 have hn2d := H.says 0 rfl (fun h q => (diskA.ok q).n2)
 refine enter Tryz.func26 rfl 109 Tryz.ntmps26 rfl (k_seq (s_region (s_M 2 rfl rfl (s_end (k_seq (k_seq (s_region (s_M 1 rfl rfl (s_do rfl rfl rfl (d_eql_pn rfl (by kernel_rfl) rfl rfl) (s_end (k_false rfl (k_skip (k_seq ?_))))))))))))); refine s_region (s_M 1 rfl rfl (s_C rfl rfl rfl rfl rfl (fun w => Tryz.call63 _ w) (crcnew_c ) H rfl ?_)); rintro _ w _ ⟨pt, rfl, rfl⟩ H'; have H := H'.l2; clear H'; refine s_go rfl rfl rfl (n_makeMap H rfl) ?_; rintro _ w ⟨m1, rfl, H'⟩; have H := H'.l3; clear H'; refine s_do rfl rfl rfl (d_build rfl rfl (out := [.pointer (some ⟨pd, 0, none⟩), .pointer (some ⟨pt, 0, none⟩), .int .i64 0, .int .i64 0, .int .i64 0, .int .i64 0, .int .i64 0, .int .i64 0, .int .i64 0, .pointer none, .map (some m1), .bool false, .map none]) (by kernel_rfl)) (s_go rfl rfl rfl (n_box H rfl rfl (cs := [.pointer (some ⟨pd, 0, none⟩), .pointer (some ⟨pt, 0, none⟩), .int .i64 0, .int .i64 0, .int .i64 0, .int .i64 0, .int .i64 0, .int .i64 0, .int .i64 0, .pointer none, .map (some m1), .bool false, .map none]) rfl) ?_); rintro _ w ⟨b2, rfl, H'⟩; have H := H'.l4; clear H'; refine s_M 1 rfl rfl (s_end (k_seq (s_region (s_L 5 [1, 0] (mm1 (H.blk 0 rfl) mm0) rfl (by kernel_rfl) rfl (s_C rfl rfl rfl rfl rfl (fun w => Tryz.call64 _ w) (load_c _ _ _ hcl.f1 x y0 y1 ho0 ho1 hp0 hp1 hc0 hc1 hxy) H.f2.f3 rfl ?_))))); rintro _ w _ ⟨rfl, rfl⟩ H'; have H := H'.l4; clear H'; refine s_M 3 rfl rfl (s_go rfl rfl rfl (n_alloc (P := Tryz.prog) H rfl (zs := [.int .i64 0, .int .i64 0, .int .i64 0, .int .i64 0, .int .i64 0, .int .i64 0, .int .i64 0]) (by kernel_rfl)) ?_)
 rintro _ w ⟨b3, rfl, H'⟩; have H := H'.l5; clear H'; refine s_put rfl rfl (n_store 0 H rfl rfl rfl rfl (vs := [.int .i64 x.gen, .int .i64 x.epoch, .int .i64 x.pages, .int .i64 x.start, .int .i64 x.len, .int .i64 x.head, .int .i64 x.seq]) rfl (by simp [u8, u32, Value.oneCell']) (by kernel_rfl) (by simp) (out := [.int .i64 x.gen, .int .i64 x.epoch, .int .i64 x.pages, .int .i64 x.start, .int .i64 x.len, .int .i64 x.head, .int .i64 x.seq]) rfl) ?_; rintro w H'; have H := H'.l5; clear H'; refine s_M 1 rfl rfl (s_end (k_seq (k_seq (s_region (s_M 2 rfl rfl (k_updA 31 (u := .bool (decide ((0 : Int) ≠ 0))) (v := .bool false) rfl (congrArg Value.bool (by decide)) (s_end (k_false rfl (k_skip (k_seq (s_region (s_M 1 rfl rfl (s_do rfl rfl rfl (d_loadAgg rfl rfl (vs := [.int .i64 x.gen, .int .i64 x.epoch, .int .i64 x.pages, .int .i64 x.start, .int .i64 x.len, .int .i64 x.head, .int .i64 x.seq]) (by kernel_rfl) (here ((H.blk 0 rfl).part 0 7 _ rfl))) ?_))))))))))))); refine s_Q 2 [2] rfl (by kernel_rfl) (s_put rfl rfl (n_store 3 H rfl rfl rfl rfl (vs := [.int .i64 x.gen, .int .i64 x.epoch, .int .i64 x.pages, .int .i64 x.start, .int .i64 x.len, .int .i64 x.head, .int .i64 x.seq]) rfl (by simp [u8, u32, Value.oneCell']) (by kernel_rfl) (by simp) (out := [.pointer (some ⟨pd, 0, none⟩), .pointer (some ⟨pt, 0, none⟩), .int .i64 x.gen, .int .i64 x.epoch, .int .i64 x.pages, .int .i64 x.start, .int .i64 x.len, .int .i64 x.head, .int .i64 x.seq, .pointer none, .map (some m1), .bool false, .map none]) rfl) ?_); rintro w H'; have H := H'.l5; clear H'; refine s_end (k_seq ?_); replace H := H.f3; refine a_region (Sep z (stB b2 pd pt x (.pointer none) m1 false (.map none) :: blk b3 [.int .i64 x.gen, .int .i64 x.epoch, .int .i64 x.pages, .int .i64 x.start, .int .i64 x.len, .int .i64 x.head, .int .i64 x.seq] 49 :: R)) 14 rfl (by kernel_rfl) (fun w' x' _ => ?_)
 have H' := H.ext0 x'; clear x' H; revert H'; generalize w' = w; intro H'
 have H := H'.l5; clear H'; refine a_L [0, 1, 2, 3, 4] [1, 0] (fun _ hx => (mm1 (hx.blk 0 rfl) mm0)) (by exact (H.pick 5 [0, 1] rfl)) rfl (by kernel_rfl) rfl rfl (a_do 5 rfl (by kernel_rfl) (by kernel_rfl) (by kernel_rfl) rfl rfl rfl (d_loadAgg rfl rfl (vs := [.int .i64 x.gen, .int .i64 x.epoch, .int .i64 x.pages, .int .i64 x.start, .int .i64 x.len, .int .i64 x.head, .int .i64 x.seq]) (by kernel_rfl) (fun _ hx => (hx.blk 1 rfl).part 0 7 _ rfl)) (H.pick 5 [0, 1] rfl) (a_all [6] (by kernel_rfl) (by simp) (all1 (o_C rfl rfl rfl rfl rfl rfl (fun w => Tryz.call65 _ w) (open_c _ _ x _ hok hcl.f1) H.f2.f3 rfl ?_)))); rintro _ w _ ⟨pl5, rs5, a5, q5, u5, v5, hq5, rfl, hruns5, hstop5, hrecs5, rfl⟩ H'; have H := H'.l7; clear H'; obtain ⟨ao2, c2, rfl⟩ := hrecs5.slc; obtain ⟨es2, hes2, hrd2, hok2⟩ := hrecs5; have hel2 : es2.length = rs5.length := by rw [← hes2]; simp
 have hgd := hO.read rs5 a5 q5 u5 hruns5 hstop5
 have hrc := hO.recs rs5 hgd
 have hsm2 := hrd2.small
 have hfbb : ∀ n, (ov rs5 n).isSome = true → n < 1024 := fun n h => by have := hO.ovb hgd h; omega
 have hfnn : ∀ n, (ov rs5 n).isSome = true → 2 + n < D.n := fun n h => by have := hO.ovb hgd h; omega
 have H : Sep z (poolA hq5 :: lgB pl5 pd pt x a5 q5 u5 false (decide (x.epoch < 4294967296)) :: tblA pt :: diskA pd D :: stB b2 pd pt x (.pointer none) m1 false (.map none) :: blk b3 [.int .i64 x.gen, .int .i64 x.epoch, .int .i64 x.pages, .int .i64 x.start, .int .i64 x.len, .int .i64 x.head, .int .i64 x.seq] 49 :: mapB m1 ([]) 0 :: R) w := H
 refine a_and (H.pick 7 [4, 5] rfl) (a_L [7, 8, 9, 10, 11, 12, 13] [] (fun _ _ => mm0) (by exact (H.pick 7 [4, 5] rfl)) rfl (by kernel_rfl) rfl rfl (a_done (by kernel_rfl) (k_seq (k_seq (s_region (s_M 2 rfl rfl (k_updA 49 (u := .bool (decide ((0 : Int) ≠ 0))) (v := .bool false) rfl (congrArg Value.bool (by decide)) (s_end (k_false rfl (k_skip (k_seq (s_region (s_L 2 [0, 0] (mm1 (H.blk 5 rfl) mm0) rfl (by kernel_rfl) rfl ?_))))))))))))); refine s_do rfl rfl rfl (d_add64 rfl rfl rfl (r := x.gen + 1) (by omega) (by omega)) (s_Q 1 [0] rfl (by kernel_rfl) (s_put rfl rfl (n_store 5 H rfl rfl rfl rfl (vs := [.int .i64 (x.gen + 1)]) rfl (by simp [u8, u32, Value.oneCell']) (by kernel_rfl) (by simp) (out := [.int .i64 (x.gen + 1), .int .i64 x.epoch, .int .i64 x.pages, .int .i64 x.start, .int .i64 x.len, .int .i64 x.head, .int .i64 x.seq]) rfl) ?_)); rintro w H'; have H := H'.l7; clear H'; refine s_end (k_seq (s_region (s_L 2 [1, 0] (mm1 (H.blk 5 rfl) mm0) rfl (by kernel_rfl) rfl (s_do rfl rfl rfl (d_add64 rfl rfl rfl (r := x.epoch + 1) (by omega) (by omega)) (s_Q 1 [1] rfl (by kernel_rfl) (s_put rfl rfl (n_store 5 H rfl rfl rfl rfl (vs := [.int .i64 (x.epoch + 1)]) rfl (by simp [u8, u32, Value.oneCell']) (by kernel_rfl) (by simp) (out := [.int .i64 (x.gen + 1), .int .i64 (x.epoch + 1), .int .i64 x.pages, .int .i64 x.start, .int .i64 x.len, .int .i64 x.head, .int .i64 x.seq]) rfl) ?_)))))); rintro w H'; have H := H'.l7; clear H'; refine s_end (k_seq (k_seq (s_region (s_L 4 [0, 0] (mm1 (H.blk 5 rfl) mm0) rfl (by kernel_rfl) rfl (s_part 62 rfl (fun h1 => ?_) (fun h1 => ?_))))))
 ·(exfalso; omega)
 ·refine s_L 4 [1, 0] (mm1 (H.blk 5 rfl) mm0) rfl (by kernel_rfl) rfl (s_end (k_dec rfl (fun h2 => ?_) (fun h2 => ?_)))
  ·(exfalso; omega)
  ·refine k_skip (k_seq (k_seq (s_region (s_M 1 rfl rfl (s_do rfl rfl rfl (d_len rfl (z := 2) (by kernel_rfl) rfl) (s_M 1 rfl rfl (s_end (k_block ?_)))))))); refine c_loop (σ := Nat × List PgE × Nat) (fun ⟨k, es, cl⟩ => [(69, .int .i64 (k : Int)), (0, .pointer (some ⟨pd, 0, none⟩)), (2, .pointer none), (3, .int .i64 0), (4, .pointer (some ⟨b2, 0, none⟩)), (5, .pointer (some ⟨b3, 0, none⟩)), (67, .slice ao2 rs5.length c2), (68, .int .i64 (rs5.length : Int))])
     (fun ⟨k, es, cl⟩ w => Sep z (poolA hq5 :: lgB pl5 pd pt x a5 q5 u5 false (decide (x.epoch < 4294967296)) :: tblA pt :: diskA pd D :: stB b2 pd pt x (.pointer none) m1 false (.map none) :: blk b3 [.int .i64 (x.gen + 1), .int .i64 (x.epoch + 1), .int .i64 x.pages, .int .i64 x.start, .int .i64 x.len, .int .i64 x.head, .int .i64 x.seq] 49 :: mapB m1 (es.map PgE.ie) cl :: R) w ∧ (k ≤ rs5.length ∧ PgsIn (ov (rs5.take k)) es cl hq5)) (fun ⟨k, es, cl⟩ => rs5.length - k) ⟨0, [], 0⟩
     (fun _ hF => (hF.co rfl (by go_num) (hF.all rfl))) ⟨H, by omega, PgsIn.none _ _⟩ ?_
   clear H; rintro ⟨k, es, cl⟩ w ⟨H', hI⟩; dsimp only at hI H' ⊢
   have H := H'.l7; clear H'; obtain ⟨hkr, hpgo⟩ := hI; refine k_seq (s_region (s_M 1 rfl rfl (s_end (k_seq (k_dec rfl (fun h3 => ?_) (fun h3 => ?_))))))
   ·refine k_skip (k_seq (k_block (k_seq (s_region ?_)))); obtain ⟨⟨rc, w1⟩, hg1⟩ : ∃ e : RcE, es2[k]? = some e := ⟨_, List.getElem?_eq_getElem (by omega)⟩; have hrk : rs5[k]? = some rc := by rw [← hes2]; simp [hg1]
    obtain ⟨is1, hs1, hri1, hki1⟩ := hok2 _ (List.mem_of_getElem? hg1); dsimp only at hs1 hri1
    obtain ⟨ao3, c3, rfl⟩ := hri1.slc; have hil1 : is1.length = rc.ims.length := by rw [← hs1]; simp
    have hsm3 := hri1.small
    have hrcm := hrc _ (List.mem_of_getElem? hrk)
    have hat1 := (H.rd 0 rfl (fun h q => hrd2.le q)).at (rcC_get hg1 0 _ rfl)
    refine s_do rfl rfl rfl (d_indexE rfl (z := 2) (j := k) (r := k * 2) (by kernel_rfl) rfl rfl rfl (by omega) hat1 (by omega)) (s_do rfl rfl rfl (d_loadAggE rfl rfl (vs := [.int .i64 rc.seq, .slice ao3 rc.ims.length c3]) (by kernel_rfl) (by simp) (here (fun k u hk => (H.rd 0 rfl (fun h q => hrd2.le q)).at (rcC_get hg1 k u hk)))) (s_go rfl rfl rfl (n_alloc (P := Tryz.prog) H rfl (zs := [.int .i64 0, .slice none 0 0]) (by kernel_rfl)) ?_)); rintro _ w ⟨b4, rfl, H'⟩; have H := H'.l8; clear H'; refine s_put rfl rfl (n_store 0 H rfl rfl rfl rfl (vs := [.int .i64 rc.seq, .slice ao3 rc.ims.length c3]) rfl (by simp [u8, u32, Value.oneCell']) (by kernel_rfl) (by simp) (out := [.int .i64 rc.seq, .slice ao3 rc.ims.length c3]) rfl) ?_; rintro w H'; have H := H'.l8; clear H'; refine s_end (k_seq (s_region (s_L 2 [1, 0] (mm1 (H.blk 0 rfl) mm0) rfl (by kernel_rfl) rfl (s_do rfl rfl rfl (d_len rfl (z := 3) (by kernel_rfl) rfl) (s_M 1 rfl rfl (s_end (k_block ?_))))))); refine c_loop (σ := Nat × List PgE × Nat) (fun ⟨j, ei, ci⟩ => [(76, .int .i64 (j : Int)), (0, .pointer (some ⟨pd, 0, none⟩)), (2, .pointer none), (3, .int .i64 0), (4, .pointer (some ⟨b2, 0, none⟩)), (5, .pointer (some ⟨b3, 0, none⟩)), (10, .pointer (some ⟨b4, 0, none⟩)), (67, .slice ao2 rs5.length c2), (68, .int .i64 (rs5.length : Int)), (69, .int .i64 (k : Int)), (70, .bool (decide ((k : Int) < (rs5.length : Int)))), (71, eptr ao2 (k * 2)), (72, .agg #[.int .i64 rc.seq, .slice ao3 rc.ims.length c3]), (73, .pointer (some ⟨b4, 1, none⟩)), (74, .slice ao3 rc.ims.length c3), (75, .int .i64 (rc.ims.length : Int))])
      (fun ⟨j, ei, ci⟩ w => Sep z (blk b4 [.int .i64 rc.seq, .slice ao3 rc.ims.length c3] 95 :: poolA hq5 :: lgB pl5 pd pt x a5 q5 u5 false (decide (x.epoch < 4294967296)) :: tblA pt :: diskA pd D :: stB b2 pd pt x (.pointer none) m1 false (.map none) :: blk b3 [.int .i64 (x.gen + 1), .int .i64 (x.epoch + 1), .int .i64 x.pages, .int .i64 x.start, .int .i64 x.len, .int .i64 x.head, .int .i64 x.seq] 49 :: mapB m1 (ei.map PgE.ie) ci :: R) w ∧ (j ≤ rc.ims.length ∧ PgsIn (ovI (ov (rs5.take k)) (rc.ims.take j)) ei ci hq5)) (fun ⟨j, ei, ci⟩ => rc.ims.length - j) ⟨0, es, cl⟩
      (fun _ hF => (hF.co rfl (by go_num) (hF.all rfl))) ⟨H, by omega, hpgo⟩ ?_
    clear H; rintro ⟨j, ei, ci⟩ w ⟨H', hI⟩; dsimp only at hI H' ⊢
    have H := H'.l8; clear H'; obtain ⟨hjr, hpg⟩ := hI; refine k_seq (s_region (s_M 1 rfl rfl (s_end (k_seq (k_dec rfl (fun h4 => ?_) (fun h4 => ?_))))))
    ·refine k_skip (k_seq (k_block (k_seq (s_region ?_)))); obtain ⟨⟨⟨inum, ikd, ibd⟩, u1⟩, hgi1⟩ : ∃ e : ImE, is1[j]? = some e := ⟨_, List.getElem?_eq_getElem (by omega)⟩; have him : rc.ims[j]? = some ⟨inum, ikd, ibd⟩ := by rw [← hs1]; simp [hgi1]
     obtain ⟨⟨him1, him2⟩, him3, him4⟩ := (hrcm.2 _ (List.mem_of_getElem? him)).1; dsimp only at him1 him2 him3 him4
     obtain ⟨n, rfl⟩ : ∃ n : Nat, inum = (n : Int) := ⟨inum.toNat, by omega⟩; have hb1 := hki1 _ (List.mem_of_getElem? hgi1)
     dsimp only at hb1
     rw [him4] at hb1; have su1 := hb1.slc
     have hat3 := (H.rd 1 rfl (fun h q => hri1.le q)).at (imC_get hgi1 0 _ rfl)
     obtain ⟨es4, hpm, hpg4, _⟩ := hpg.put (k := n) (p := ⟨ikd, ibd⟩) (v := u1) ⟨him3, him4⟩ hb1; refine s_do rfl rfl rfl (d_indexE rfl (z := 3) (j := j) (r := j * 3) (by kernel_rfl) rfl rfl rfl (by omega) hat3 (by omega)) (s_do rfl rfl rfl (d_loadAggE rfl rfl (vs := [.int .i64 (n : Int), .int .i64 ikd, u1]) (by kernel_rfl) (by simp) (here (fun k u hk => (H.rd 1 rfl (fun h q => hri1.le q)).at (imC_get hgi1 k u hk)))) (s_go rfl rfl rfl (n_alloc (P := Tryz.prog) H rfl (zs := [.int .i64 0, .int .i64 0, .slice none 0 0]) (by kernel_rfl)) ?_)); rintro _ w ⟨b5, rfl, H'⟩; have H := H'.l9; clear H'; refine s_put rfl rfl (n_store 0 H rfl rfl rfl rfl (vs := [.int .i64 (n : Int), .int .i64 ikd, u1]) rfl (one_cons rfl (one_cons rfl (one_cons su1.one one_nil))) (by kernel_rfl) (by simp) (out := [.int .i64 (n : Int), .int .i64 ikd, u1]) rfl) ?_; rintro w H'; have H := H'.l9; clear H'; refine s_end ?_; replace H := H.f6; refine a_region (Sep z (stB b2 pd pt x (.pointer none) m1 false (.map none) :: blk b5 [.int .i64 (n : Int), .int .i64 ikd, u1] 98 :: R)) 9 rfl (by kernel_rfl) (fun w' x' _ => ?_); have H' := H.ext0 x'; clear x' H; revert H'; generalize w' = w; intro H'
     have H := H'.l9; clear H'; refine a_L [0, 1, 2, 3, 4, 5, 6] [10, 0, 0, 1, 1] (fun _ hx => (mm1 (hx.blk 0 rfl) (mm1 (hx.blk 1 rfl) mm0))) (by exact (H.pick 9 [0, 1] rfl)) rfl (by kernel_rfl) rfl rfl (a_do 7 rfl (by kernel_rfl) (by kernel_rfl) (by kernel_rfl) rfl rfl rfl (d_loadAgg rfl rfl (vs := [.int .i64 ikd, u1]) (by kernel_rfl) (fun _ hx => (hx.blk 1 rfl).part 1 2 _ rfl)) (H.pick 9 [0, 1] rfl) (a_all [8] (by kernel_rfl) (by simp) (all1 (o_put rfl rfl rfl (n_mapUpdate 8 (e := 65) H rfl rfl (by kernel_rfl) rfl rfl rfl) ?_)))); rintro w H'; have H := H'.l9; clear H'; refine a_and (H.pick 9 [0, 1] rfl) (a_done (by kernel_rfl) ?_); rw [hpm] at H; have H : Sep z (stB b2 pd pt x (.pointer none) m1 false (.map none) :: blk b5 [.int .i64 (n : Int), .int .i64 ikd, u1] 98 :: blk b4 [.int .i64 rc.seq, .slice ao3 rc.ims.length c3] 95 :: poolA hq5 :: lgB pl5 pd pt x a5 q5 u5 false (decide (x.epoch < 4294967296)) :: tblA pt :: diskA pd D :: blk b3 [.int .i64 (x.gen + 1), .int .i64 (x.epoch + 1), .int .i64 x.pages, .int .i64 x.start, .int .i64 x.len, .int .i64 x.head, .int .i64 x.seq] 49 :: mapB m1 (es4.map PgE.ie) (putC (ei.map PgE.ie) (n : Int) ci) :: R) w := H
     refine s_region (s_do rfl rfl rfl (d_add64 rfl rfl rfl (r := (j : Int) + 1) (by omega) (by omega)) (s_M 1 rfl rfl (s_end ?_))); replace H := H.f1.d.f7.f7.f2.f7.f7.f7.f7.f7; intro _ hF; refine ⟨⟨j + 1, es4, putC (ei.map PgE.ie) (n : Int) ci⟩, (hF.co rfl (by go_num) (hF.all rfl)), ⟨H, ?_⟩, ?_⟩
     ·dsimp only
      exact ⟨by omega, (ovI_take_succ him) ▸ hpg4⟩
     ·(dsimp only; omega)
    ·obtain rfl : j = rc.ims.length := by omega
     refine k_exit (k_here (s_region (s_do rfl rfl rfl (d_add64 rfl rfl rfl (r := (k : Int) + 1) (by omega) (by omega)) (s_M 1 rfl rfl (s_end ?_))))); replace H := H.d; intro _ hF; refine ⟨⟨k + 1, ei, ci⟩, (hF.co rfl (by go_num) (hF.all rfl)), ⟨H, ?_⟩, ?_⟩
     ·dsimp only
      rw [List.take_of_length_le (Nat.le_refl _), ov_take_succ hrk] at hpg; exact ⟨by omega, hpg⟩
     ·(dsimp only; omega)
   ·obtain rfl : k = rs5.length := by omega
    have hpg := hpgo
    rw [List.take_of_length_le (Nat.le_refl _)] at hpg; refine k_exit (k_here (k_seq (s_region (s_Q 1 [5] rfl (by kernel_rfl) (s_put rfl rfl (n_store 5 H rfl rfl rfl rfl (vs := [.int .i64 0]) rfl (by simp [u8, u32, Value.oneCell']) (by kernel_rfl) (by simp) (out := [.int .i64 (x.gen + 1), .int .i64 (x.epoch + 1), .int .i64 x.pages, .int .i64 x.start, .int .i64 x.len, .int .i64 0, .int .i64 x.seq]) rfl) ?_))))); rintro w H'; have H := H'.l7; clear H'; refine s_Q 1 [6] rfl (by kernel_rfl) (s_put rfl rfl (n_store 5 H rfl rfl rfl rfl (vs := [.int .i64 1]) rfl (by simp [u8, u32, Value.oneCell']) (by kernel_rfl) (by simp) (out := [.int .i64 (x.gen + 1), .int .i64 (x.epoch + 1), .int .i64 x.pages, .int .i64 x.start, .int .i64 x.len, .int .i64 0, .int .i64 1]) rfl) ?_); rintro w H'; have H := H'.l7; clear H'; refine s_end (k_seq (k_seq (s_region (s_M 1 rfl rfl (s_do rfl rfl rfl (d_loadAgg rfl rfl (vs := [.int .i64 (x.gen + 1), .int .i64 (x.epoch + 1), .int .i64 x.pages, .int .i64 x.start, .int .i64 x.len, .int .i64 0, .int .i64 1]) (by kernel_rfl) (here ((H.blk 5 rfl).part 0 7 _ rfl))) ?_))))); have H' := H.toPgs 6 rfl hpg
    have H := H'.l7; clear H'; refine s_C rfl rfl rfl rfl rfl (fun w => Tryz.call66 _ w) (settle2_c _ _ _ _ _ _ _ _ (ov rs5) _ (opS x) D hfbb hfnn hoky (fun i => by rw [hO.ver]; simp)) H.f6.f4.f4.f5 rfl ?_; rintro _ w _ (⟨ks, hks, rfl, rfl⟩ | ⟨ks, c, D2, hks, hcne, hsf, rfl, rfl⟩) H'
    ·have H := H'.l7; clear H'; refine s_M 1 rfl rfl (s_end (k_seq (s_region (s_M 2 rfl rfl (k_updA 96 (u := .bool (decide ((0 : Int) ≠ 0))) (v := .bool false) rfl (congrArg Value.bool (by decide)) (s_end (k_false rfl (k_skip (k_seq ?_))))))))); replace H := H.f6.f1; refine l_region (Sep z (stB b2 pd pt (opS x) (.pointer none) m1 false (.map none) :: blk b3 [.int .i64 (x.gen + 1), .int .i64 (x.epoch + 1), .int .i64 x.pages, .int .i64 x.start, .int .i64 x.len, .int .i64 0, .int .i64 1] 49 :: R)) 11 rfl (by kernel_rfl) (fun w' x' _ => ?_); have H' := H.ext0 x'; clear x' H; revert H'; generalize w' = w; intro H'
     have H := H'.l7; clear H'; refine l_L [0, 1, 2, 3, 4, 5] [1, 0] (by kernel_rfl) (fun _ hx => (mm1 (hx.blk 0 rfl) mm0)) (by exact (H.pick 7 [0, 1] rfl)) rfl (by kernel_rfl) rfl rfl (l_do 6 (by kernel_rfl) rfl rfl (by kernel_rfl) (by kernel_rfl) (by kernel_rfl) rfl rfl rfl (d_loadAgg rfl rfl (vs := [.int .i64 (x.gen + 1), .int .i64 (x.epoch + 1), .int .i64 x.pages, .int .i64 x.start, .int .i64 x.len, .int .i64 0, .int .i64 1]) (by kernel_rfl) (fun _ hx => (hx.blk 1 rfl).part 0 7 _ rfl)) (H.pick 7 [0, 1] rfl) (l_all [7] (by kernel_rfl) (by simp) (all1 (o_C rfl rfl rfl rfl rfl rfl (fun w => Tryz.call67 _ w) (lnewD_c _ _ _ (opS x) (by show (opS x).Ok ((hwD D _).n : Int); rw [hw_n]; exact hoky)) H.f3 rfl ?_)))); rintro _ w _ ⟨pl, rfl, rfl⟩ H'; have H := H'.l8; clear H'; refine l_and (fun _ => (H.pick 8 [2, 3] rfl)) (l_L [8, 9] [9] (by kernel_rfl) (fun _ _ => mm0) (by exact (H.pick 8 [2, 3] rfl)) rfl (by kernel_rfl) rfl rfl (l_all [10] (by kernel_rfl) (by simp) (all1 (o_put rfl rfl rfl (n_store 2 H rfl rfl rfl rfl (vs := [.pointer (some ⟨pl, 0, none⟩)]) rfl (by simp [u8, u32, Value.oneCell']) (by kernel_rfl) (by simp) (out := [.pointer (some ⟨pd, 0, none⟩), .pointer (some ⟨pt, 0, none⟩), .int .i64 ((opS x).gen), .int .i64 ((opS x).epoch), .int .i64 ((opS x).pages), .int .i64 ((opS x).start), .int .i64 ((opS x).len), .int .i64 ((opS x).head), .int .i64 ((opS x).seq), .pointer (some ⟨pl, 0, none⟩), .map (some m1), .bool false, .map none]) rfl) ?_)))); rintro w H'; have H := H'.l8; clear H'; refine l_and (fun h => absurd rfl h) (l_done (by kernel_rfl) (k_seq (s_region (s_M 3 rfl rfl (s_end (k_ret (doneL rfl [.pointer (some ⟨b2, 0, none⟩), .int .i64 0] ⟨rfl, ⟨rfl, trivial⟩⟩ (v := .tuple #[.pointer (some ⟨b2, 0, none⟩), .int .i64 0]) rfl ?_)))))))
     exact ⟨[stB b2 pd pt (opS x) (.pointer (some ⟨pl, 0, none⟩)) m1 false (.map none), lgB pl pd pt (opS x) ((opS x).head) ((opS x).seq) 0 false (decide ((opS x).epoch < 4294967296)), tblA pt, diskA pd (svD (hwD D (pgLst (ov rs5) ks)).fl (opS x)), pgsA m1 noPgs hq5, poolA hq5], ⟨b2, pl, _, m1, _, _, rs5, hgd, hO.opened hgd hks hoky hep, (((hcl.hw _).fl).sv _), by show (hwD _ _).n = _; exact hw_n _ _, sv_ver (fun _ => rfl) _, rfl, rfl⟩, H.perm 8 [2, 0, 4, 1, 5, 6] rfl rfl⟩
    ·exact absurd hsf hcl.setF
end Go.Proofs.YtbegkbjigbkljaaGreatDoor
namespace Go.Proofs.YtbegkbjigbkljaaGreatDoor
open Go.RowKit
theorem zh_step (n k : Nat) : wr1 (zhD (newD n) k) false ((2 : Int) + (k : Int)).toNat (List.replicate 256 0) = zhD (newD n) (k + 1) := by
  rw [show ((2 : Int) + (k : Int)).toNat = 2 + k from by omega]; rfl
theorem fm_ok1 {n : Nat} {p s l : Int} (h : (fmS p s l 2).Ok (n : Int)) : (fmS p s l 1).Ok (n : Int) := by
  have hk := h.2
  have hs := Sup.get h
  have h2 : (fmS p s l 2).pages = p ∧ (fmS p s l 2).start = s ∧ (fmS p s l 2).len = l ∧ (fmS p s l 2).head = 0 := ⟨rfl, rfl, rfl, rfl⟩
  exact Sup.ok_mk (by show 0 ≤ (1 : Int) ∧ (1 : Int) ≤ 1099511627776; omega) (by show 0 ≤ (1 : Int) ∧ (1 : Int) ≤ 1099511627776; omega) (by show 16 ≤ p ∧ p ≤ 1024; omega) (by show 2 + p ≤ s ∧ s ≤ 1099511627776; omega) (by show 64 ≤ l ∧ l ≤ 1099511627776; omega) (by show 0 ≤ (0 : Int) ∧ (0 : Int) < l; omega) (by show 0 ≤ (1 : Int) ∧ (1 : Int) ≤ 1099511627776; omega) (by show s ≤ n - l ∧ l ≤ n; omega)
theorem fm_f {n : Nat} {p s l : Int} (h : (fmS p s l 2).Ok (n : Int)) : (16 ≤ p ∧ p ≤ 1024) ∧ 2 + p ≤ s ∧ s + l ≤ n ∧ 0 ≤ l := by
  have hk := h.2
  have h2 : (fmS p s l 2).pages = p ∧ (fmS p s l 2).start = s ∧ (fmS p s l 2).len = l ∧ (fmS p s l 2).head = 0 := ⟨rfl, rfl, rfl, rfl⟩
  omega
set_option maxHeartbeats 2000000 in
theorem format_c (pd n : Nat) (p s l : Int) (hok : (fmS p s l 2).Ok (n : Int)) : Cn Tryz.prog 28 [.pointer (some ⟨pd, 0, none⟩), .int .i64 p, .int .i64 s, .int .i64 l] [diskA pd (newD n)] (fun v Γ => v = .int .i64 0 ∧ Γ = [diskA pd (fmD n p s l)]) := by
 intro z R w H'; have H : Sep z (diskA pd (newD n) :: R) w := H'
 clear H'; have hok1 : (fmS p s l 1).Ok (n : Int) := fm_ok1 hok
 have hk2 : (16 ≤ p ∧ p ≤ 1024) ∧ 2 + p ≤ s ∧ s + l ≤ n ∧ 0 ≤ l := fm_f hok
 have hn2d := H.says 0 rfl (fun h q => (diskA.ok q).n2)
 have hn3 : n ≤ 4096 := hn2d
 refine enter Tryz.func28 rfl 57 Tryz.ntmps28 rfl (k_seq (s_region (s_M 1 rfl rfl (s_end (k_seq (k_seq (s_region (s_M 1 rfl rfl (s_do rfl rfl rfl (d_eql_pn rfl (by kernel_rfl) rfl rfl) (s_end (k_false rfl (k_skip (k_seq ?_))))))))))))); refine s_region (s_M 3 rfl rfl (s_do rfl rfl rfl (d_build rfl rfl (out := [.int .i64 1, .int .i64 1, .int .i64 p, .int .i64 s, .int .i64 l, .int .i64 0, .int .i64 1]) (by kernel_rfl)) (s_go rfl rfl rfl (n_alloc (P := Tryz.prog) H rfl (zs := [.int .i64 0, .int .i64 0, .int .i64 0, .int .i64 0, .int .i64 0, .int .i64 0, .int .i64 0]) (by kernel_rfl)) ?_))); rintro _ w ⟨b1, rfl, H'⟩; have H := H'.l2; clear H'; refine s_put rfl rfl (n_store 0 H rfl rfl rfl rfl (vs := [.int .i64 1, .int .i64 1, .int .i64 p, .int .i64 s, .int .i64 l, .int .i64 0, .int .i64 1]) rfl (by simp [u8, u32, Value.oneCell']) (by kernel_rfl) (by simp) (out := [.int .i64 1, .int .i64 1, .int .i64 p, .int .i64 s, .int .i64 l, .int .i64 0, .int .i64 1]) rfl) ?_; rintro w H'; have H := H'.l2; clear H'; refine s_end (k_seq (k_seq (q_region (Sep z _) (by kernel_rfl) (by kernel_rfl) H.drew (q_do rfl rfl rfl (d_loadAgg rfl rfl (vs := [.int .i64 1, .int .i64 1, .int .i64 p, .int .i64 s, .int .i64 l, .int .i64 0, .int .i64 1]) (by kernel_rfl) (fun _ hx => (hx.blk 0 rfl).part 0 7 _ rfl)) (q_M 1 [] rfl (by kernel_rfl) (q_call rfl rfl rfl rfl rfl (fun w => Tryz.call68 _ w) (v := .int .i64 ((newD n).n : Int)) (cq (sizeD_c _ _) (by rintro _ _ ⟨rfl, rfl⟩; exact ⟨rfl, rfl⟩) 2 [1, 0] [1, 0] rfl rfl rfl rfl) (q_call rfl rfl rfl rfl rfl (fun w => Tryz.call50 _ w) (v := .int .i64 (if (Sup.mk 1 1 p s l 0 1).Ok ((newD n).n : Int) then 0 else 1)) (cq (check_c (Sup.mk 1 1 p s l 0 1) _ (by omega)) (by rintro _ _ ⟨rfl, rfl⟩; exact ⟨rfl, rfl⟩) 0 [] [] rfl rfl rfl rfl) (q_M 1 [] rfl (by kernel_rfl) (q_end (fun w H' => ?_))))))))))
 have H := H'.l2; clear H'; refine k_dec rfl (fun h1 => ?_) (fun h1 => ?_)
 ·exact (h1 (if_pos hok1)).elim
 ·refine k_skip (k_seq (k_seq (s_region (s_M 2 rfl rfl (s_end (k_block ?_)))))); refine c_loop (σ := Nat) (fun k => [(27, .int .i64 (k : Int)), (0, .pointer (some ⟨pd, 0, none⟩)), (9, .pointer (some ⟨b1, 0, none⟩)), (26, .int .i64 p)])
    (fun k w => Sep z (blk b1 [.int .i64 1, .int .i64 1, .int .i64 p, .int .i64 s, .int .i64 l, .int .i64 0, .int .i64 1] 49 :: diskA pd (zhD (newD n) k) :: R) w ∧ (k ≤ p.toNat)) (fun k => p.toNat - k) 0
    (fun _ hF => (hF.co rfl (by go_num) (hF.all rfl))) ⟨H, by omega⟩ ?_
  clear H; rintro k w ⟨H', hI⟩; have H := H'.l2; clear H'; have hkp := hI; clear hI
  refine k_seq (s_region (s_M 1 rfl rfl (s_end (k_seq (k_dec rfl (fun h2 => ?_) (fun h2 => ?_))))))
  ·refine k_skip (k_seq (k_block (k_seq (s_region (s_M 2 rfl rfl (s_end (k_seq (s_region (s_M 2 rfl rfl (s_do rfl rfl rfl (d_add64 rfl rfl rfl (r := (2 : Int) + (k : Int)) (by omega) (by omega)) (s_go rfl rfl rfl (n_make (k := 256) H rfl (by kernel_rfl) (Elt.mk (P := Tryz.prog) (e := 5) (z := u8 0) (sz := 1) (by_ := 1) (by kernel_rfl) rfl (by omega) (by omega)) rfl rfl rfl (by omega)) ?_))))))))))); rintro _ w ⟨b2, rfl, H'⟩; have H := H'.l3; clear H'; refine s_C rfl rfl rfl rfl rfl (fun w => Tryz.call69 _ w) (write1_c _ _ _ _ _ _ _ (List.replicate 256 0) _ (by simp) (fun h q => by rw [List.map_replicate]; exact q.rd (by omega) (by omega) (by simp) rfl) (fun i => by have := zh_len n i k; omega) (by rw [zh_n]; show 0 ≤ (2 : Int) + (k : Int) ∧ (2 : Int) + (k : Int) + 1 ≤ (n : Int); omega)) H.f2 rfl ?_; rintro _ w _ (⟨hbad, rfl, rfl⟩ | ⟨_, rfl, rfl⟩) H'
   ·exact absurd hbad (zh_clean (newD_clean n) k).bad
   ·have H := H'.l3; clear H'; refine s_M 1 rfl rfl (s_end (k_seq (s_region (s_M 2 rfl rfl (k_updA 36 (u := .bool (decide ((0 : Int) ≠ 0))) (v := .bool false) rfl (congrArg Value.bool (by decide)) (s_end (k_false rfl (k_skip (s_region (s_do rfl rfl rfl (d_add64 rfl rfl rfl (r := (k : Int) + 1) (by omega) (by omega)) (s_M 1 rfl rfl (s_end ?_)))))))))))); replace H := H.f1.d.f1; intro _ hF; refine ⟨(k + 1), (hF.co rfl (by go_num) (hF.all rfl)), ⟨(by rw [← zh_step]; exact H), ?_⟩, ?_⟩
    ·omega
    ·omega
  ·obtain rfl : k = p.toNat := by omega
   refine k_exit (k_here (k_seq (k_seq (s_region (s_M 1 rfl rfl (s_C rfl rfl rfl rfl rfl (fun w => Tryz.call60 _ w) (flush_c _ _) H.f1 rfl ?_)))))); rintro _ w _ (⟨hfb_, rfl, rfl⟩ | ⟨_, rfl, rfl⟩) H'
   ·exact absurd hfb_ (zh_clean (newD_clean n) p.toNat).flb
   ·have H := H'.l2; clear H'; refine s_M 1 rfl rfl (s_end (k_seq (s_region (s_M 2 rfl rfl (k_updA 42 (u := .bool (decide ((0 : Int) ≠ 0))) (v := .bool false) rfl (congrArg Value.bool (by decide)) (s_end (k_false rfl (k_skip (k_seq (s_region (s_C rfl rfl rfl rfl rfl (fun w => Tryz.call63 _ w) (crcnew_c ) H rfl ?_))))))))))); rintro _ w _ ⟨pt, rfl, rfl⟩ H'; have H := H'.l3; clear H'; refine s_M 1 rfl rfl (s_end (k_seq (k_seq (s_region (s_M 2 rfl rfl (s_do rfl rfl rfl (d_loadAgg rfl rfl (vs := [.int .i64 1, .int .i64 1, .int .i64 p, .int .i64 s, .int .i64 l, .int .i64 0, .int .i64 1]) (by kernel_rfl) (here ((H.blk 2 rfl).part 0 7 _ rfl))) (s_C rfl rfl rfl rfl rfl (fun w => Tryz.call70 _ w) (save_c _ _ _ (fmS p s l 1) (by show (fmS p s l 1).Ok ((zhD (newD n) p.toNat).n : Int); rw [zh_n]; exact hok1) (fun i => by show ([] : List (List UInt8)).length ≤ _; simp)) H.f1 rfl ?_))))))); rintro _ w _ (⟨hsb, rfl, rfl⟩ | ⟨_, rfl, rfl⟩) H'
    ·exact absurd hsb ((zh_clean (newD_clean n) p.toNat).fl).bad
    ·have H := H'.l3; clear H'; refine s_M 1 rfl rfl (s_end (k_seq (s_region (s_M 2 rfl rfl (k_updA 50 (u := .bool (decide ((0 : Int) ≠ 0))) (v := .bool false) rfl (congrArg Value.bool (by decide)) (s_end (k_false rfl (k_skip (k_seq (s_region (s_Q 1 [0] rfl (by kernel_rfl) (s_put rfl rfl (n_store 2 H rfl rfl rfl rfl (vs := [.int .i64 2]) rfl (by simp [u8, u32, Value.oneCell']) (by kernel_rfl) (by simp) (out := [.int .i64 2, .int .i64 1, .int .i64 p, .int .i64 s, .int .i64 l, .int .i64 0, .int .i64 1]) rfl) ?_)))))))))))); rintro w H'; have H := H'.l3; clear H'; refine s_end (k_seq (s_region (s_M 2 rfl rfl (s_do rfl rfl rfl (d_loadAgg rfl rfl (vs := [.int .i64 2, .int .i64 1, .int .i64 p, .int .i64 s, .int .i64 l, .int .i64 0, .int .i64 1]) (by kernel_rfl) (here ((H.blk 2 rfl).part 0 7 _ rfl))) (s_C rfl rfl rfl rfl rfl (fun w => Tryz.call70 _ w) (save_c _ _ _ (fmS p s l 2) (by show (fmS p s l 2).Ok ((zhD (newD n) p.toNat).n : Int); rw [zh_n]; exact hok) (fun i => by rw [sv_ver (fun _ => rfl)]; simp)) H rfl ?_))))); rintro _ w _ (⟨hsb, rfl, rfl⟩ | ⟨_, rfl, rfl⟩) H'
     ·exact absurd hsb (((zh_clean (newD_clean n) p.toNat).fl.sv _)).bad
     ·have H := H'.l3; clear H'; refine s_M 1 rfl rfl (s_end (k_ret (doneL rfl [.int .i64 0] ⟨rfl, trivial⟩ (v := .int .i64 0) rfl ?_))); exact ⟨[diskA pd (svD (svD ((zhD (newD n) p.toNat).fl) (fmS p s l 1)) (fmS p s l 2))], ⟨rfl, rfl⟩, H.perm 3 [0] rfl rfl⟩
theorem ssync_c (ps pd pt md : Nat) (x : Sup) (lp mo : Value) (D : Dsk) : Cn Tryz.prog 23 [.pointer (some ⟨ps, 0, none⟩)] [stB ps pd pt x lp md false mo, diskA pd D] (fun v Γ => (D.flb ∧ v = .int .i64 12 ∧ Γ = [stB ps pd pt x lp md false mo, diskA pd { D with f3 := tick D.f3 }]) ∨ (¬ D.flb ∧ v = .int .i64 0 ∧ Γ = [stB ps pd pt x lp md false mo, diskA pd D.fl])) := by
 intro z R w H'; have H : Sep z (stB ps pd pt x lp md false mo :: diskA pd D :: R) w := H'
 clear H'; refine enter Tryz.func23 rfl 12 Tryz.ntmps23 rfl (k_seq (s_region (s_M 1 rfl rfl (s_end (k_seq (k_seq (s_region (s_L 4 [11, 0] (mm1 (H.blk 0 rfl) mm0) rfl (by kernel_rfl) rfl (s_end (k_false rfl (k_skip (k_seq (s_region ?_))))))))))))); refine s_L 4 [0, 0] (mm1 (H.blk 0 rfl) mm0) rfl (by kernel_rfl) rfl (s_C rfl rfl rfl rfl rfl (fun w => Tryz.call60 _ w) (flush_c _ _) H.f1 rfl ?_); rintro _ w _ (⟨hfb_, rfl, rfl⟩ | ⟨hfb_, rfl, rfl⟩) H'
 ·have H := H'.l2; clear H'; refine s_M 1 rfl rfl (s_end (k_ret (doneL rfl [.int .i64 12] ⟨rfl, trivial⟩ (v := .int .i64 12) rfl ?_))); exact ⟨[stB ps pd pt x lp md false mo, diskA pd ({ D with f3 := tick D.f3 })], .inl ⟨hfb_, rfl, rfl⟩, H.perm 2 [1, 0] rfl rfl⟩
 ·have H := H'.l2; clear H'; refine s_M 1 rfl rfl (s_end (k_ret (doneL rfl [.int .i64 0] ⟨rfl, trivial⟩ (v := .int .i64 0) rfl ?_))); exact ⟨[stB ps pd pt x lp md false mo, diskA pd D.fl], .inr ⟨hfb_, rfl, rfl⟩, H.perm 2 [1, 0] rfl rfl⟩
set_option maxHeartbeats 2000000 in
theorem check_pt_c (ps pd pt pl md : Nat) (x sL : Sup) (mo : Value) (nu : Bool) (hq : Hp) (D : Dsk) (B : Nat → Pg) (rs : List Rc) (ptl : List (List UInt8)) (a q u : Int) (b : Bool) (sure : Nat) (hS : SInv D x B rs ptl a q u b sure) (hL : sL.start = x.start ∧ sL.len = x.len ∧ sL.epoch = x.epoch) (hqb : q ≤ 1099511627776) (hver : ∀ i, (D.ver i).length ≤ 1000000000000) : Cn Tryz.prog 52 [.pointer (some ⟨ps, 0, none⟩)] [stB ps pd pt x (.pointer (some ⟨pl, 0, none⟩)) md false mo, lgB pl pd pt sL a q u b nu, tblA pt, diskA pd D, pgsA md (ov rs) hq, poolA hq] (fun v Γ => ((∀ n, ov rs n = none) ∧ b = false ∧ u < x.len ∧ v = .int .i64 0 ∧ Γ = [stB ps pd pt x (.pointer (some ⟨pl, 0, none⟩)) md false mo, lgB pl pd pt sL a q u b nu, tblA pt, diskA pd D, pgsA md (ov rs) hq, poolA hq]) ∨ (∃ D2 : Dsk, ¬ ((∀ n, ov rs n = none) ∧ b = false ∧ u < x.len) ∧ SInv D2 (ckS x a q) (pgMap (ov rs) B) [] [] a q 0 false 0 ∧ (Clean D → Clean D2) ∧ D2.n = D.n ∧ (∀ i, D2.ver i = []) ∧ v = .int .i64 0 ∧ Γ = [stB ps pd pt (ckS x a q) (.pointer (some ⟨pl, 0, none⟩)) md false mo, lgB pl pd pt sL a q 0 false nu, tblA pt, diskA pd D2, pgsA md noPgs hq, poolA hq]) ∨ (∃ (c : Int) (D2 : Dsk) (sure2 : Nat), c ≠ 0 ∧ (¬ Clean D ∨ 1099511627776 < x.gen + 1) ∧ (SInv D2 x B rs ptl a q u b sure2 ∧ sure ≤ sure2) ∧ D2.n = D.n ∧ (∀ i, (D2.ver i).length ≤ (D.ver i).length + 1) ∧ v = .int .i64 c ∧ Γ = [stB ps pd pt x (.pointer (some ⟨pl, 0, none⟩)) md false mo, lgB pl pd pt sL a q u b nu, tblA pt, diskA pd D2, pgsA md (ov rs) hq, poolA hq])) := by
 intro z R w H'; have H : Sep z (stB ps pd pt x (.pointer (some ⟨pl, 0, none⟩)) md false mo :: lgB pl pd pt sL a q u b nu :: tblA pt :: diskA pd D :: pgsA md (ov rs) hq :: poolA hq :: R) w := H'
 clear H'; refine enter Tryz.func52 rfl 9 Tryz.ntmps52 rfl (k_seq (s_region (s_M 1 rfl rfl (s_end (k_seq (k_seq (s_region (s_L 4 [11, 0] (mm1 (H.blk 0 rfl) mm0) rfl (by kernel_rfl) rfl (s_end (k_false rfl (k_skip (k_seq (s_region ?_))))))))))))); refine s_M 1 rfl rfl (s_C rfl rfl rfl rfl rfl (fun w => Tryz.call92 _ w) (checkpoint_c _ _ _ _ _ _ _ _ _ _ _ _ _ _ _ _ _ _ _ _ hS hL (by omega) hver) H rfl ?_); rintro _ w _ (⟨hn0, hbf, hu64, rfl, rfl⟩ | ⟨D2, hne2, hS2, hcl2, hDn2, hv2, rfl, rfl⟩ | ⟨c3_, D2, sure2, hcne, hwhy, ⟨hS2, hsu2⟩, hDn2, hvl2, rfl, rfl⟩) H'
 ·have H := H'.l6; clear H'; refine s_M 1 rfl rfl (s_end (k_ret (doneL rfl [.int .i64 0] ⟨rfl, trivial⟩ (v := .int .i64 0) rfl ?_))); exact ⟨[stB ps pd pt x (.pointer (some ⟨pl, 0, none⟩)) md false mo, lgB pl pd pt sL a q u b nu, tblA pt, diskA pd D, pgsA md (ov rs) hq, poolA hq], .inl ⟨hn0, hbf, hu64, rfl, rfl⟩, H⟩
 ·have H := H'.l6; clear H'; refine s_M 1 rfl rfl (s_end (k_ret (doneL rfl [.int .i64 0] ⟨rfl, trivial⟩ (v := .int .i64 0) rfl ?_))); exact ⟨[stB ps pd pt (ckS x a q) (.pointer (some ⟨pl, 0, none⟩)) md false mo, lgB pl pd pt sL a q 0 false nu, tblA pt, diskA pd D2, pgsA md noPgs hq, poolA hq], .inr (.inl ⟨D2, hne2, hS2, hcl2, hDn2, hv2, rfl, rfl⟩), H⟩
 ·have H := H'.l6; clear H'; refine s_M 1 rfl rfl (s_end (k_ret (doneL rfl [.int .i64 c3_] ⟨rfl, trivial⟩ (v := .int .i64 c3_) rfl ?_))); exact ⟨[stB ps pd pt x (.pointer (some ⟨pl, 0, none⟩)) md false mo, lgB pl pd pt sL a q u b nu, tblA pt, diskA pd D2, pgsA md (ov rs) hq, poolA hq], .inr (.inr ⟨c3_, D2, sure2, hcne, hwhy, ⟨hS2, hsu2⟩, hDn2, hvl2, rfl, rfl⟩), H⟩
set_option maxHeartbeats 2000000 in
theorem switch_c (ps pd pt pl md : Nat) (x sL : Sup) (mo : Value) (nu : Bool) (hq : Hp) (D : Dsk) (B : Nat → Pg) (rs : List Rc) (ptl : List (List UInt8)) (a q u : Int) (b : Bool) (sure : Nat) (hS : SInv D x B rs ptl a q u b sure) (hL : sL.start = x.start ∧ sL.len = x.len ∧ sL.epoch = x.epoch) (hqb : q ≤ 1099511627776) (hver : ∀ i, (D.ver i).length ≤ 1000000000000) (start len : Int) (he1 : x.epoch + 1 < 4294967296) : Cn Tryz.prog 53 [.pointer (some ⟨ps, 0, none⟩), .int .i64 start, .int .i64 len] [stB ps pd pt x (.pointer (some ⟨pl, 0, none⟩)) md false mo, lgB pl pd pt sL a q u b nu, tblA pt, diskA pd D, pgsA md (ov rs) hq, poolA hq] (fun v Γ => ((¬ ∀ n, ov rs n = none) ∧ v = .int .i64 17 ∧ Γ = [stB ps pd pt x (.pointer (some ⟨pl, 0, none⟩)) md false mo, lgB pl pd pt sL a q u b nu, tblA pt, diskA pd D, pgsA md (ov rs) hq, poolA hq]) ∨ ((∀ n, ov rs n = none) ∧ ¬ (swS x start len).Ok (D.n : Int) ∧ v = .int .i64 1 ∧ Γ = [stB ps pd pt x (.pointer (some ⟨pl, 0, none⟩)) md false mo, lgB pl pd pt sL a q u b nu, tblA pt, diskA pd D, pgsA md (ov rs) hq, poolA hq]) ∨ ((∀ n, ov rs n = none) ∧ (swS x start len).Ok (D.n : Int) ∧ D.bad ∧ v = .int .i64 11 ∧ Γ = [stB ps pd pt x (.pointer (some ⟨pl, 0, none⟩)) md false mo, lgB pl pd pt sL a q u b nu, tblA pt, diskA pd D.wf, pgsA md (ov rs) hq, poolA hq]) ∨ ((∀ n, ov rs n = none) ∧ (swS x start len).Ok (D.n : Int) ∧ ¬ D.bad ∧ ∃ pl2, SInv (svD D (swS x start len)) (swS x start len) B [] [] 0 1 0 false 0 ∧ v = .int .i64 0 ∧ Γ = [stB ps pd pt (swS x start len) (.pointer (some ⟨pl2, 0, none⟩)) md false mo, lgB pl2 pd pt (swS x start len) 0 1 0 false (decide ((swS x start len).epoch < 4294967296)), tblA pt, diskA pd (svD D (swS x start len)), pgsA md (ov rs) hq, poolA hq])) := by
 intro z R w H'; have H : Sep z (stB ps pd pt x (.pointer (some ⟨pl, 0, none⟩)) md false mo :: lgB pl pd pt sL a q u b nu :: tblA pt :: diskA pd D :: pgsA md (ov rs) hq :: poolA hq :: R) w := H'
 clear H'; have hok := hS.ok
 have hsg := Sup.get hok
 have hk2 := hok.2
 have hP := hS.p
 have hpa := hP.at_ok hS.s
 have hul := hP.ul
 have hfu := hP.fu
 have hgen := hS.gen
 have hfq := hP.fq
 have hsq := hS.s.seq
 have hq0 : 0 ≤ q := by split at hfq <;> omega
 have hhd := hS.s.head
 have hfbb : ∀ n, (ov rs n).isSome = true → n < 1024 := fun n h => by have := hS.ovb h; omega
 have hfnn : ∀ n, (ov rs n).isSome = true → 2 + n < D.n := fun n h => by have := hS.ovb h; omega
 have hn2d := H.says 3 rfl (fun h q => (diskA.ok q).n2)
 obtain ⟨es, clk, hpg, H'⟩ := H.pgs 4 rfl; clear H; have H := H'.l6; clear H'; refine enter Tryz.func53 rfl 77 Tryz.ntmps53 rfl (k_seq (s_region (s_M 1 rfl rfl (s_end (k_seq (k_seq (s_region (s_L 9 [11, 0, 10, 0] (mm1 (H.blk 0 rfl) mm0) rfl (by kernel_rfl) rfl (s_do rfl rfl rfl (d_lenM (e := 65) rfl (by kernel_rfl) rfl (here (H.bk 4 rfl))) (s_M 2 rfl rfl (s_end (k_dec rfl (fun h1 => ?_) (fun h1 => ?_)))))))))))))
 ·refine k_seq (s_region (s_M 1 rfl rfl (s_end (k_ret (doneL rfl [.int .i64 17] ⟨rfl, trivial⟩ (v := .int .i64 17) rfl ?_))))); have H' := H.toPgs 4 rfl hpg
  have H := H'.l6; clear H'; exact ⟨[stB ps pd pt x (.pointer (some ⟨pl, 0, none⟩)) md false mo, lgB pl pd pt sL a q u b nu, tblA pt, diskA pd D, pgsA md (ov rs) hq, poolA hq], .inl ⟨fun hn => by have hz := hpg.nil_iff.2 hn; simp at h1; omega, rfl, rfl⟩, H⟩
 ·refine k_skip (k_seq (s_region (s_Q 3 [2] rfl (by kernel_rfl) (s_do rfl rfl rfl (d_loadAgg rfl rfl (vs := [.int .i64 x.gen, .int .i64 x.epoch, .int .i64 x.pages, .int .i64 x.start, .int .i64 x.len, .int .i64 x.head, .int .i64 x.seq]) (by kernel_rfl) (here ((H.blk 0 rfl).part 2 7 _ rfl))) (s_go rfl rfl rfl (n_alloc (P := Tryz.prog) H rfl (zs := [.int .i64 0, .int .i64 0, .int .i64 0, .int .i64 0, .int .i64 0, .int .i64 0, .int .i64 0]) (by kernel_rfl)) ?_))))); rintro _ w ⟨b1, rfl, H'⟩; have H := H'.l7; clear H'; refine s_put rfl rfl (n_store 0 H rfl rfl rfl rfl (vs := [.int .i64 x.gen, .int .i64 x.epoch, .int .i64 x.pages, .int .i64 x.start, .int .i64 x.len, .int .i64 x.head, .int .i64 x.seq]) rfl (by simp [u8, u32, Value.oneCell']) (by kernel_rfl) (by simp) (out := [.int .i64 x.gen, .int .i64 x.epoch, .int .i64 x.pages, .int .i64 x.start, .int .i64 x.len, .int .i64 x.head, .int .i64 x.seq]) rfl) ?_; rintro w H'; have H := H'.l7; clear H'; refine s_end (k_seq (s_region (s_L 2 [0, 0] (mm1 (H.blk 0 rfl) mm0) rfl (by kernel_rfl) rfl (s_do rfl rfl rfl (d_add64 rfl rfl rfl (r := x.gen + 1) (by omega) (by omega)) (s_Q 1 [0] rfl (by kernel_rfl) (s_put rfl rfl (n_store 0 H rfl rfl rfl rfl (vs := [.int .i64 (x.gen + 1)]) rfl (by simp [u8, u32, Value.oneCell']) (by kernel_rfl) (by simp) (out := [.int .i64 (x.gen + 1), .int .i64 x.epoch, .int .i64 x.pages, .int .i64 x.start, .int .i64 x.len, .int .i64 x.head, .int .i64 x.seq]) rfl) ?_)))))); rintro w H'; have H := H'.l7; clear H'; refine s_end (k_seq (s_region (s_L 2 [1, 0] (mm1 (H.blk 0 rfl) mm0) rfl (by kernel_rfl) rfl (s_do rfl rfl rfl (d_add64 rfl rfl rfl (r := x.epoch + 1) (by omega) (by omega)) (s_Q 1 [1] rfl (by kernel_rfl) (s_put rfl rfl (n_store 0 H rfl rfl rfl rfl (vs := [.int .i64 (x.epoch + 1)]) rfl (by simp [u8, u32, Value.oneCell']) (by kernel_rfl) (by simp) (out := [.int .i64 (x.gen + 1), .int .i64 (x.epoch + 1), .int .i64 x.pages, .int .i64 x.start, .int .i64 x.len, .int .i64 x.head, .int .i64 x.seq]) rfl) ?_))))))
  rintro w H'; have H := H'.l7; clear H'; refine s_end (k_seq (s_region (s_Q 3 [3] rfl (by kernel_rfl) (s_put rfl rfl (n_store 0 H rfl rfl rfl rfl (vs := [.int .i64 start]) rfl (by simp [u8, u32, Value.oneCell']) (by kernel_rfl) (by simp) (out := [.int .i64 (x.gen + 1), .int .i64 (x.epoch + 1), .int .i64 x.pages, .int .i64 start, .int .i64 x.len, .int .i64 x.head, .int .i64 x.seq]) rfl) ?_)))); rintro w H'; have H := H'.l7; clear H'; refine s_Q 1 [4] rfl (by kernel_rfl) (s_put rfl rfl (n_store 0 H rfl rfl rfl rfl (vs := [.int .i64 len]) rfl (by simp [u8, u32, Value.oneCell']) (by kernel_rfl) (by simp) (out := [.int .i64 (x.gen + 1), .int .i64 (x.epoch + 1), .int .i64 x.pages, .int .i64 start, .int .i64 len, .int .i64 x.head, .int .i64 x.seq]) rfl) ?_); rintro w H'; have H := H'.l7; clear H'; refine s_Q 1 [5] rfl (by kernel_rfl) (s_put rfl rfl (n_store 0 H rfl rfl rfl rfl (vs := [.int .i64 0]) rfl (by simp [u8, u32, Value.oneCell']) (by kernel_rfl) (by simp) (out := [.int .i64 (x.gen + 1), .int .i64 (x.epoch + 1), .int .i64 x.pages, .int .i64 start, .int .i64 len, .int .i64 0, .int .i64 x.seq]) rfl) ?_); rintro w H'; have H := H'.l7; clear H'; refine s_Q 1 [6] rfl (by kernel_rfl) (s_put rfl rfl (n_store 0 H rfl rfl rfl rfl (vs := [.int .i64 1]) rfl (by simp [u8, u32, Value.oneCell']) (by kernel_rfl) (by simp) (out := [.int .i64 (x.gen + 1), .int .i64 (x.epoch + 1), .int .i64 x.pages, .int .i64 start, .int .i64 len, .int .i64 0, .int .i64 1]) rfl) ?_); rintro w H'; have H := H'.l7; clear H'; refine s_end (k_seq (k_seq (q_region (Sep z _) (by kernel_rfl) (by kernel_rfl) H.drew (q_do rfl rfl rfl (d_loadAgg rfl rfl (vs := [.int .i64 (x.gen + 1), .int .i64 (x.epoch + 1), .int .i64 x.pages, .int .i64 start, .int .i64 len, .int .i64 0, .int .i64 1]) (by kernel_rfl) (fun _ hx => (hx.blk 0 rfl).part 0 7 _ rfl)) (q_L 4 [0, 0] (fun _ hx => (mm1 (hx.blk 1 rfl) mm0)) rfl (by kernel_rfl) rfl (q_call rfl rfl rfl rfl rfl (fun w => Tryz.call68 _ w) (v := .int .i64 (D.n : Int)) (cq (sizeD_c _ _) (by rintro _ _ ⟨rfl, rfl⟩; exact ⟨rfl, rfl⟩) 5 [4, 0, 1, 2, 3] [1, 2, 3, 4, 0] rfl rfl rfl rfl) (q_call rfl rfl rfl rfl rfl (fun w => Tryz.call50 _ w) (v := .int .i64 (if (Sup.mk (x.gen + 1) (x.epoch + 1) x.pages start len 0 1).Ok (D.n : Int) then 0 else 1)) (cq (check_c (Sup.mk (x.gen + 1) (x.epoch + 1) x.pages start len 0 1) _ (by omega)) (by rintro _ _ ⟨rfl, rfl⟩; exact ⟨rfl, rfl⟩) 0 [] [] rfl rfl rfl rfl) (q_M 1 [] rfl (by kernel_rfl) (q_end (fun w H' => ?_))))))))))
  have H := H'.l7; clear H'; refine k_dec rfl (fun h2 => ?_) (fun h2 => ?_)
  ·refine k_seq (s_region (s_M 1 rfl rfl (s_end (k_ret (doneL rfl [.int .i64 1] ⟨rfl, trivial⟩ (v := .int .i64 1) rfl ?_))))); have H' := H.toPgs 5 rfl hpg
   have H := H'.l7; clear H'; have hn0 := hpg.nil_iff.1 (by simpa using h1)
   exact ⟨[stB ps pd pt x (.pointer (some ⟨pl, 0, none⟩)) md false mo, lgB pl pd pt sL a q u b nu, tblA pt, diskA pd D, pgsA md (ov rs) hq, poolA hq], .inr (.inl ⟨hn0, fun hk => absurd (if_pos hk) h2, rfl, rfl⟩), H.perm 7 [1, 2, 3, 4, 5, 6] rfl rfl⟩
  ·refine k_skip (k_seq (k_seq ?_)); have hoky : (swS x start len).Ok (D.n : Int) := Decidable.byContradiction fun g_ => h2 (fun e => absurd ((if_neg g_).symm.trans e) (by decide))
   replace H := H.f1; refine a_region (Sep z (stB ps pd pt x (.pointer (some ⟨pl, 0, none⟩)) md false mo :: blk b1 [.int .i64 (x.gen + 1), .int .i64 (x.epoch + 1), .int .i64 x.pages, .int .i64 start, .int .i64 len, .int .i64 0, .int .i64 1] 49 :: R)) 11 rfl (by kernel_rfl) (fun w' x' _ => ?_); have H' := H.ext0 x'; clear x' H; revert H'; generalize w' = w; intro H'
   have H := H'.l7; clear H'; refine a_L [0, 1, 2, 3, 4, 5, 6, 7] [0, 0, 1, 0] (fun _ hx => (mm1 (hx.blk 0 rfl) mm0)) (by exact (H.pick 7 [0, 1] rfl)) rfl (by kernel_rfl) rfl rfl (a_do 8 rfl (by kernel_rfl) (by kernel_rfl) (by kernel_rfl) rfl rfl rfl (d_loadAgg rfl rfl (vs := [.int .i64 (x.gen + 1), .int .i64 (x.epoch + 1), .int .i64 x.pages, .int .i64 start, .int .i64 len, .int .i64 0, .int .i64 1]) (by kernel_rfl) (fun _ hx => (hx.blk 1 rfl).part 0 7 _ rfl)) (H.pick 7 [0, 1] rfl) (a_all [9] (by kernel_rfl) (by simp) (all1 (o_C rfl rfl rfl rfl rfl rfl (fun w => Tryz.call70 _ w) (save_c _ _ _ (swS x start len) hoky (fun i => by have := hver i; omega)) H.f3.f4 rfl ?_)))); rintro _ w _ (⟨hsb, rfl, rfl⟩ | ⟨hsb, rfl, rfl⟩) H'
   ·have H := H'.l7; clear H'; refine a_and (H.pick 7 [2, 3] rfl) (a_L [10] [] (fun _ _ => mm0) (by exact (H.pick 7 [2, 3] rfl)) rfl (by kernel_rfl) rfl rfl (a_done (by kernel_rfl) (k_seq (s_region (s_M 2 rfl rfl (k_updA 58 (u := .bool (decide ((11 : Int) ≠ 0))) (v := .bool true) rfl (congrArg Value.bool (by decide)) (s_end (k_true rfl (k_seq (s_region (s_M 2 rfl rfl (s_end (k_ret ?_))))))))))))); refine doneL rfl [.int .i64 11] ⟨rfl, trivial⟩ (v := .int .i64 11) rfl ?_; have H' := H.toPgs 5 rfl hpg
    have H := H'.l7; clear H'; have hn0 := hpg.nil_iff.1 (by simpa using h1)
    exact ⟨[stB ps pd pt x (.pointer (some ⟨pl, 0, none⟩)) md false mo, lgB pl pd pt sL a q u b nu, tblA pt, diskA pd D.wf, pgsA md (ov rs) hq, poolA hq], .inr (.inr (.inl ⟨hn0, hoky, hsb, rfl, rfl⟩)), H.perm 7 [2, 4, 1, 0, 5, 6] rfl rfl⟩
   ·have H := H'.l7; clear H'; refine a_and (H.pick 7 [2, 3] rfl) (a_L [10] [] (fun _ _ => mm0) (by exact (H.pick 7 [2, 3] rfl)) rfl (by kernel_rfl) rfl rfl (a_done (by kernel_rfl) (k_seq (s_region (s_M 2 rfl rfl (k_updA 58 (u := .bool (decide ((0 : Int) ≠ 0))) (v := .bool false) rfl (congrArg Value.bool (by decide)) (s_end (k_false rfl (k_skip (k_seq (s_region (s_M 1 rfl rfl (s_do rfl rfl rfl (d_loadAgg rfl rfl (vs := [.int .i64 (x.gen + 1), .int .i64 (x.epoch + 1), .int .i64 x.pages, .int .i64 start, .int .i64 len, .int .i64 0, .int .i64 1]) (by kernel_rfl) (here ((H.blk 3 rfl).part 0 7 _ rfl))) ?_))))))))))))); refine s_Q 2 [2] rfl (by kernel_rfl) (s_put rfl rfl (n_store 2 H rfl rfl rfl rfl (vs := [.int .i64 (x.gen + 1), .int .i64 (x.epoch + 1), .int .i64 x.pages, .int .i64 start, .int .i64 len, .int .i64 0, .int .i64 1]) rfl (by simp [u8, u32, Value.oneCell']) (by kernel_rfl) (by simp) (out := [.pointer (some ⟨pd, 0, none⟩), .pointer (some ⟨pt, 0, none⟩), .int .i64 (x.gen + 1), .int .i64 (x.epoch + 1), .int .i64 x.pages, .int .i64 start, .int .i64 len, .int .i64 0, .int .i64 1, .pointer (some ⟨pl, 0, none⟩), .map (some md), .bool false, mo]) rfl) ?_); rintro w H'; have H := H'.l7; clear H'; refine s_end (k_seq ?_); replace H := H.f3.f3; refine l_region (Sep z (blk ps [.pointer (some ⟨pd, 0, none⟩), .pointer (some ⟨pt, 0, none⟩), .int .i64 (x.gen + 1), .int .i64 (x.epoch + 1), .int .i64 x.pages, .int .i64 start, .int .i64 len, .int .i64 0, .int .i64 1, .pointer (some ⟨pl, 0, none⟩), .map (some md), .bool false, mo] 108 :: blk b1 [.int .i64 (x.gen + 1), .int .i64 (x.epoch + 1), .int .i64 x.pages, .int .i64 start, .int .i64 len, .int .i64 0, .int .i64 1] 49 :: R)) 14 rfl (by kernel_rfl) (fun w' x' _ => ?_)
    have H' := H.ext0 x'; clear x' H; revert H'; generalize w' = w; intro H'
    have H := H'.l7; clear H'; refine l_L [0, 1, 2, 3, 4, 5, 6, 7, 8] [0, 0, 1, 0] (by kernel_rfl) (fun _ hx => (mm1 (hx.blk 0 rfl) mm0)) (by exact (H.pick 7 [0, 1] rfl)) rfl (by kernel_rfl) rfl rfl (l_do 9 (by kernel_rfl) rfl rfl (by kernel_rfl) (by kernel_rfl) (by kernel_rfl) rfl rfl rfl (d_loadAgg rfl rfl (vs := [.int .i64 (x.gen + 1), .int .i64 (x.epoch + 1), .int .i64 x.pages, .int .i64 start, .int .i64 len, .int .i64 0, .int .i64 1]) (by kernel_rfl) (fun _ hx => (hx.blk 1 rfl).part 0 7 _ rfl)) (H.pick 7 [0, 1] rfl) (l_all [10] (by kernel_rfl) (by simp) (all1 (o_C rfl rfl rfl rfl rfl rfl (fun w => Tryz.call67 _ w) (lnewD_c _ _ _ (swS x start len) (by exact hoky)) H.f2 rfl ?_)))); rintro _ w _ ⟨pl2, rfl, rfl⟩ H'; have H := H'.l8; clear H'; refine l_and (fun _ => (H.pick 8 [2, 3] rfl)) (l_L [11, 12] [9] (by kernel_rfl) (fun _ _ => mm0) (by exact (H.pick 8 [2, 3] rfl)) rfl (by kernel_rfl) rfl rfl (l_all [13] (by kernel_rfl) (by simp) (all1 (o_put rfl rfl rfl (n_store 2 H rfl rfl rfl rfl (vs := [.pointer (some ⟨pl2, 0, none⟩)]) rfl (by simp [u8, u32, Value.oneCell']) (by kernel_rfl) (by simp) (out := [.pointer (some ⟨pd, 0, none⟩), .pointer (some ⟨pt, 0, none⟩), .int .i64 (x.gen + 1), .int .i64 (x.epoch + 1), .int .i64 x.pages, .int .i64 start, .int .i64 len, .int .i64 0, .int .i64 1, .pointer (some ⟨pl2, 0, none⟩), .map (some md), .bool false, mo]) rfl) ?_)))); rintro w H'; have H := H'.l8; clear H'; refine l_and (fun h => absurd rfl h) (l_done (by kernel_rfl) (k_seq (s_region (s_M 1 rfl rfl (s_end (k_ret (doneL rfl [.int .i64 0] ⟨rfl, trivial⟩ (v := .int .i64 0) rfl ?_)))))))
    have H' := H.toPgs 6 rfl hpg
    have H := H'.l8; clear H'; have hn0 := hpg.nil_iff.1 (by simpa using h1)
    exact ⟨[blk ps [.pointer (some ⟨pd, 0, none⟩), .pointer (some ⟨pt, 0, none⟩), .int .i64 (x.gen + 1), .int .i64 (x.epoch + 1), .int .i64 x.pages, .int .i64 start, .int .i64 len, .int .i64 0, .int .i64 1, .pointer (some ⟨pl2, 0, none⟩), .map (some md), .bool false, mo] 108, lgB pl2 pd pt (swS x start len) ((swS x start len).head) ((swS x start len).seq) 0 false (decide ((swS x start len).epoch < 4294967296)), tblA pt, diskA pd (svD D (swS x start len)), pgsA md (ov rs) hq, poolA hq], .inr (.inr (.inr ⟨hn0, hoky, hsb, _, hS.switched he1 hn0 hqb hoky, rfl, rfl⟩)), H.perm 8 [2, 0, 4, 1, 6, 7] rfl rfl⟩
end Go.Proofs.YtbegkbjigbkljaaGreatDoor
namespace Go.Proofs.YtbegkbjigbkljaaGreatDoor
structure StG where
  x : Sup
  B : Nat → Pg
  rs : List Rc
  ptl : List (List UInt8)
  a : Int
  q : Int
  u : Int
  b : Bool
  sure : Nat
def StG.M (G : StG) : Nat → Pg := pgMap (ov G.rs) G.B
def StG.home (G : StG) : Prop := ∀ n, ov G.rs n = none
structure StX where
  pl : Nat
  pt : Nat
  md : Nat
  mm : Nat
  sL : Sup
  nu : Bool
  hq : Hp
abbrev Txn := Option (Pgs × Nat)
def ownV (mm : Nat) : Txn → Value
  | none => .map none
  | some _ => .map (some mm)
def ownL (mm : Nat) (hq : Hp) : Txn → List Asn
  | none => []
  | some o => [pgsC mm o.1 o.2 hq]
abbrev stoB (ps pd pt md : Nat) (x : Sup) (lp : Value) (un : Bool) (mo : Value) : Asn := blk ps [.pointer (some ⟨pd, 0, none⟩), .pointer (some ⟨pt, 0, none⟩), .int .i64 x.gen, .int .i64 x.epoch, .int .i64 x.pages, .int .i64 x.start, .int .i64 x.len, .int .i64 x.head, .int .i64 x.seq, lp, .map (some md), .bool un, mo] 108
abbrev logB (pl pd pt : Nat) (sL : Sup) (a q u : Int) (b nu : Bool) : Asn := blk pl [.pointer (some ⟨pd, 0, none⟩), .pointer (some ⟨pt, 0, none⟩), .int .i64 sL.gen, .int .i64 sL.epoch, .int .i64 sL.pages, .int .i64 sL.start, .int .i64 sL.len, .int .i64 sL.head, .int .i64 sL.seq, .int .i64 a, .int .i64 q, .int .i64 u, .bool b, .bool nu] 176
def stoL (ps pd : Nat) (D : Dsk) (G : StG) (own : Txn) (X : StX) : List Asn :=
  [stoB ps pd X.pt X.md G.x (.pointer (some ⟨X.pl, 0, none⟩)) own.isSome (ownV X.mm own), logB X.pl pd X.pt X.sL G.a G.q G.u G.b X.nu, tblA X.pt, diskA pd D, pgsA X.md (ov G.rs) X.hq, poolA X.hq] ++ ownL X.mm X.hq own
structure StP (D : Dsk) (G : StG) (own : Txn) (X : StX) : Prop where
  inv : SInv D G.x G.B G.rs G.ptl G.a G.q G.u G.b G.sure
  l : X.sL.start = G.x.start ∧ X.sL.len = G.x.len ∧ X.sL.epoch = G.x.epoch
  ok : X.sL.Ok (D.n : Int)
  nu : X.nu = decide (X.sL.epoch < 4294967296)
  own : ∀ o, own = some o → o.2 ≤ 40 ∧ ∀ n, (o.1 n).isSome = true → (n : Int) < G.x.pages
def stoA (ps pd : Nat) (D : Dsk) (G : StG) (own : Txn) : Asn := fun h => ∃ X, StP D G own X ∧ seps (stoL ps pd D G own X) h
structure Fine (D : Dsk) (G : StG) (m : Nat) : Prop where
  clean : Clean D
  b : G.b = false
  ver : ∀ i, (D.ver i).length ≤ m
  gen : G.x.gen ≤ m
  epoch : G.x.epoch ≤ m
  q : G.q ≤ m
theorem Fine.le {D : Dsk} {G : StG} {m m' : Nat} (h : Fine D G m) (e : m ≤ m') : Fine D G m' :=
  ⟨h.clean, h.b, fun i => Nat.le_trans (h.ver i) e, by have := h.gen; omega, by have := h.epoch; omega, by have := h.q; omega⟩
variable {z w : World} {Γ : List Asn} {ps pd : Nat} {D : Dsk} {G : StG} {own : Txn}
theorem Sep.sto (H : Sep z (stoA ps pd D G own :: Γ) w) : ∃ X, StP D G own X ∧ Sep z (stoL ps pd D G own X ++ Γ) w :=
  H.into (p := fun X => StP D G own X) (As := fun X => stoL ps pd D G own X) (fun _ q => q)
theorem Sep.toSto {X : StX} (n : Nat) (H : Sep z Γ w) (hX : StP D G own X) (hn : Γ.take n = stoL ps pd D G own X) : Sep z (stoA ps pd D G own :: Γ.drop n) w :=
  H.made n (fun h q => ⟨X, hX, by rwa [hn] at q⟩)
theorem stoA.inv {h : Hp} (a : stoA ps pd D G own h) : SInv D G.x G.B G.rs G.ptl G.a G.q G.u G.b G.sure := by
  obtain ⟨X, hX, _⟩ := a; exact hX.inv
theorem stoA.txn {h : Hp} {o : Pgs × Nat} (a : stoA ps pd D G (some o) h) : o.2 ≤ 40 ∧ ∀ n, (o.1 n).isSome = true → (n : Int) < G.x.pages := by
  obtain ⟨X, hX, _⟩ := a; exact hX.own o rfl
def curPg (M : Nat → Pg) : Txn → Nat → Pg
  | none, n => M n
  | some o, n => (o.1 n).getD (M n)
def opG (x : Sup) (B : Nat → Pg) : StG := ⟨opS x, B, [], [], 0, 1, 0, false, 0⟩
theorem opG_M (x : Sup) (B : Nat → Pg) : (opG x B).M = B := rfl
theorem home_M {G : StG} (h : G.home) : G.M = G.B := by funext n; show ((ov G.rs) n).getD _ = _; rw [h n]; rfl
/-! ### what is asked of a store -/
theorem open_s (pd : Nat) (D : Dsk) (x : Sup) (B : Nat → Pg) (Gd : List Rc → Prop) (m : Nat) (hO : OInv D x B Gd) (hcl : Clean D) (hg : x.gen ≤ m ∧ x.epoch ≤ m) (hm : m ≤ 1000000000) :
    Cn Tryz.prog 26 [.pointer (some ⟨pd, 0, none⟩)] [diskA pd D] (fun v Γ => ∃ (ps : Nat) (D2 : Dsk) (got : List Rc), Gd got ∧ Fine D2 (opG x (pgMap (ov got) B)) (m + 1) ∧ D2.n = D.n ∧ v = .tuple #[.pointer (some ⟨ps, 0, none⟩), .int .i64 0] ∧ Γ = [stoA ps pd D2 (opG x (pgMap (ov got) B)) none]) := by
  intro z R w H
  refine Ret.mono (sopen_c pd D x B Gd hO hcl (by omega) (by omega) z R w H) ?_
  rintro v w' ⟨Γ', ⟨ps, pl, pt, md, hq, D2, got, h1, h2, h3, h4, h5, rfl, rfl⟩, H'⟩
  refine ⟨_, ⟨ps, D2, got, h1, ⟨h3, rfl, fun i => by rw [h5]; simp, ?_, ?_, ?_⟩, h4, rfl, rfl⟩, H'.toSto (X := ⟨pl, pt, md, 0, opS x, decide ((opS x).epoch < 4294967296), hq⟩) 6 ⟨h2, ⟨rfl, rfl, rfl⟩, h2.ok, rfl, fun o e => (by cases e)⟩ rfl⟩
  · show x.gen + 1 ≤ _; omega
  · show x.epoch + 1 ≤ _; omega
  · show (1 : Int) ≤ _; omega
theorem begin_s (ps pd : Nat) (D : Dsk) (G : StG) : Cn Tryz.prog 18 [.pointer (some ⟨ps, 0, none⟩)] [stoA ps pd D G none] (fun v Γ => v = .int .i64 0 ∧ Γ = [stoA ps pd D G (some (noPgs, 0))]) := by
  intro z R w H
  obtain ⟨X, hX, H⟩ := H.sto
  refine Ret.mono (Cn.at (begin_c ps pd X.pt X.md G.x _ _) H 6 [0, 1, 2, 3, 4, 5] rfl rfl) ?_
  rintro v w' ⟨Γ', ⟨rfl, m, rfl⟩, H'⟩
  have H2 := H'.mono 1 (B := pgsC m noPgs 0 X.hq) rfl (fun h q => ⟨[], 0, PgsIn.none _ _, rfl, q⟩)
  have H3 := H2.pick 7 [0, 2, 3, 4, 5, 6, 1] rfl
  exact ⟨_, ⟨rfl, rfl⟩, H3.toSto (X := ⟨X.pl, X.pt, X.md, m, X.sL, X.nu, X.hq⟩) 7 ⟨hX.inv, hX.l, hX.ok, hX.nu, fun o e => by cases e; exact ⟨by omega, fun n h => (by cases h)⟩⟩ rfl⟩
theorem super_s (ps pd : Nat) (D : Dsk) (G : StG) (own : Txn) : Cn Tryz.prog 13 [.pointer (some ⟨ps, 0, none⟩)] [stoA ps pd D G own] (fun v Γ => v = .agg #[.int .i64 G.x.gen, .int .i64 G.x.epoch, .int .i64 G.x.pages, .int .i64 G.x.start, .int .i64 G.x.len, .int .i64 G.x.head, .int .i64 G.x.seq] ∧ Γ = [stoA ps pd D G own]) := by
  intro z R w H
  obtain ⟨X, hX, H⟩ := H.sto
  cases own with
  | none =>
    refine Ret.mono (Cn.at (super_c ps pd X.pt X.md G.x _ _ _) H 6 [0, 1, 2, 3, 4, 5] rfl rfl) ?_
    rintro v w' ⟨Γ', ⟨rfl, rfl⟩, H'⟩
    exact ⟨_, ⟨rfl, rfl⟩, H'.toSto (X := X) 6 hX rfl⟩
  | some o =>
    refine Ret.mono (Cn.at (super_c ps pd X.pt X.md G.x _ _ _) H 7 [0, 1, 2, 3, 4, 5, 6] rfl rfl) ?_
    rintro v w' ⟨Γ', ⟨rfl, rfl⟩, H'⟩
    exact ⟨_, ⟨rfl, rfl⟩, H'.toSto (X := X) 7 hX rfl⟩
theorem dirty_s (ps pd : Nat) (D : Dsk) (G : StG) (own : Txn) : Cn Tryz.prog 51 [.pointer (some ⟨ps, 0, none⟩)] [stoA ps pd D G own] (fun v Γ => ∃ ks : List Int, KsOk (ov G.rs) ks ∧ Γ = [grow 3 1 v ks.length (ks.map (Value.int .i64)), stoA ps pd D G own]) := by
  intro z R w H
  obtain ⟨X, hX, H⟩ := H.sto
  have hk := hX.inv.ok.2
  have hfb : ∀ n, (ov G.rs n).isSome = true → n < 1024 := fun n h => by have := hX.inv.ovb h; omega
  cases own with
  | none =>
    refine Ret.mono (Cn.at (sdirty_c ps pd X.pt X.md G.x _ _ _ (ov G.rs) X.hq hfb) H 6 [0, 4, 1, 2, 3, 5] rfl rfl) ?_
    rintro v w' ⟨Γ', ⟨ks, hks, rfl⟩, H'⟩
    have H3 := H'.pick 7 [1, 3, 4, 5, 2, 6, 0] rfl
    have H4 := H3.toSto (X := X) (ps := ps) (pd := pd) (D := D) (G := G) (own := none) 6 hX rfl
    exact ⟨_, ⟨ks, hks, rfl⟩, H4.pick 2 [1, 0] rfl⟩
  | some o =>
    refine Ret.mono (Cn.at (sdirty_c ps pd X.pt X.md G.x _ _ _ (ov G.rs) X.hq hfb) H 7 [0, 4, 1, 2, 3, 5, 6] rfl rfl) ?_
    rintro v w' ⟨Γ', ⟨ks, hks, rfl⟩, H'⟩
    have H3 := H'.pick 8 [1, 3, 4, 5, 2, 6, 7, 0] rfl
    have H4 := H3.toSto (X := X) (ps := ps) (pd := pd) (D := D) (G := G) (own := some o) 7 hX rfl
    exact ⟨_, ⟨ks, hks, rfl⟩, H4.pick 2 [1, 0] rfl⟩
theorem write_s (ps pd : Nat) (D : Dsk) (G : StG) (g : Pgs) (k : Nat) (n : Nat) (hn : (n : Int) < G.x.pages) (p : Pg) (hp : p.Ok) (bv : Value) (A : Asn) (hA : ∀ h, A h → rdH 1 bv 240 (p.body.map u8) h) :
    Cn Tryz.prog 19 [.pointer (some ⟨ps, 0, none⟩), .int .i64 (n : Int), .agg #[.int .i64 p.kind, bv]] [stoA ps pd D G (some (g, k)), A] (fun v Γ => ((g n = none ∧ 40 ≤ k) ∧ v = .int .i64 16 ∧ Γ = [stoA ps pd D G (some (g, k)), A]) ∨ (¬ (g n = none ∧ 40 ≤ k) ∧ v = .int .i64 0 ∧ Γ = [stoA ps pd D G (some (pgSet g n p, k + (if (g n).isSome then 0 else 1))), A])) := by
  intro z R w H
  obtain ⟨X, hX, H⟩ := H.sto
  obtain ⟨ho1, ho2⟩ := hX.own _ rfl
  refine Ret.mono (Cn.at (swrite_c ps pd X.pt X.md X.mm G.x _ g k X.hq n hn p hp bv A hA) H 8 [0, 6, 5, 7, 1, 2, 3, 4] rfl rfl) ?_
  rintro v w' ⟨Γ', (⟨h1, rfl, rfl⟩ | ⟨h1, hq2, hs, rfl, rfl⟩), H'⟩
  · have H3 := H'.pick 8 [0, 4, 5, 6, 7, 2, 1, 3] rfl
    exact ⟨_, .inl ⟨h1, rfl, rfl⟩, H3.toSto (X := X) (ps := ps) (pd := pd) (D := D) (G := G) (own := some (g, k)) 7 hX rfl⟩
  · have H3 := (H'.pick 8 [0, 4, 5, 6, 7, 2, 1, 3] rfl).mono 4 (B := pgsA X.md (ov G.rs) hq2) rfl (fun h q => pgsA.le hs h q)
    refine ⟨_, .inr ⟨h1, rfl, rfl⟩, H3.toSto (X := ⟨X.pl, X.pt, X.md, X.mm, X.sL, X.nu, hq2⟩) (ps := ps) (pd := pd) (D := D) (G := G) (own := some (pgSet g n p, k + (if (g n).isSome then 0 else 1))) 7 ⟨hX.inv, hX.l, hX.ok, hX.nu, fun o e => ?_⟩ rfl⟩
    cases e
    refine ⟨?_, fun i hi => ?_⟩
    · show k + (if (g n).isSome then 0 else 1) ≤ 40
      split
      · exact ho1
      · rename_i hs2
        have hgn : g n = none := by simpa using hs2
        have : ¬ 40 ≤ k := fun e => h1 ⟨hgn, e⟩
        omega
    · have hi' : (pgSet g n p i).isSome = true := hi
      unfold pgSet at hi'
      split at hi'
      · rename_i e; subst e; exact hn
      · exact ho2 i hi'
theorem read_s (ps pd : Nat) (D : Dsk) (G : StG) (own : Txn) (n : Nat) (hn : (n : Int) < G.x.pages) (hf1 : D.f1 = 0) (q : Pg) (hq : q = curPg G.M own n) :
    Cn Tryz.prog 22 [.pointer (some ⟨ps, 0, none⟩), .int .i64 (n : Int)] [stoA ps pd D G own] (fun v Γ => (q = noPg ∧ v = .tuple #[.agg #[.int .i64 0, .slice none 0 0], .int .i64 0] ∧ Γ = [stoA ps pd D G own]) ∨ (q.Ok ∧ ∃ v1, v = .tuple #[.agg #[.int .i64 q.kind, v1], .int .i64 0] ∧ Γ = [grow 5 1 v1 240 (q.body.map u8), stoA ps pd D G own])) := by
  intro z R w H
  obtain ⟨X, hX, H⟩ := H.sto
  cases own with
  | none =>
    refine Ret.mono (Cn.at (sreadN_c ps pd X.pt X.md G.x _ _ (ov G.rs) X.hq D n hn hf1 hX.inv.ok q (G.B n) hq (fun e => hX.inv.cur hn e)) H 6 [0, 2, 3, 4, 5, 1] rfl rfl) ?_
    rintro v w' ⟨Γ', (⟨h1, rfl, rfl⟩ | ⟨h1, v1, rfl, rfl⟩), H'⟩
    · have H3 := H'.pick 6 [0, 5, 1, 2, 3, 4] rfl
      exact ⟨_, .inl ⟨h1, rfl, rfl⟩, H3.toSto (X := X) (ps := ps) (pd := pd) (D := D) (G := G) (own := none) 6 hX rfl⟩
    · have H3 := H'.pick 7 [1, 6, 2, 3, 4, 5, 0] rfl
      have H4 := H3.toSto (X := X) (ps := ps) (pd := pd) (D := D) (G := G) (own := none) 6 hX rfl
      exact ⟨_, .inr ⟨h1, v1, rfl, rfl⟩, H4.pick 2 [1, 0] rfl⟩
  | some o =>
    refine Ret.mono (Cn.at (sreadO_c ps pd X.pt X.md X.mm G.x _ _ (ov G.rs) o.1 o.2 X.hq D n hn hf1 hX.inv.ok q (G.B n) (by rw [hq]; show (o.1 n).getD ((ov G.rs n).getD (G.B n)) = _; cases o.1 n <;> rfl) (fun e => hX.inv.cur hn (by cases h1 : o.1 n with | none => rw [h1] at e; exact e | some y => rw [h1] at e; cases e))) H 7 [0, 2, 3, 4, 6, 5, 1] rfl rfl) ?_
    rintro v w' ⟨Γ', (⟨h1, rfl, rfl⟩ | ⟨h1, v1, rfl, rfl⟩), H'⟩
    · have H3 := H'.pick 7 [0, 6, 1, 2, 3, 5, 4] rfl
      exact ⟨_, .inl ⟨h1, rfl, rfl⟩, H3.toSto (X := X) (ps := ps) (pd := pd) (D := D) (G := G) (own := some o) 7 hX rfl⟩
    · have H3 := H'.pick 8 [1, 7, 2, 3, 4, 6, 5, 0] rfl
      have H4 := H3.toSto (X := X) (ps := ps) (pd := pd) (D := D) (G := G) (own := some o) 7 hX rfl
      exact ⟨_, .inr ⟨h1, v1, rfl, rfl⟩, H4.pick 2 [1, 0] rfl⟩
theorem commit_s (ps pd : Nat) (D : Dsk) (G : StG) (g : Pgs) (k m : Nat) (hF : Fine D G m) (hm : m ≤ 1000000000) :
    Cn Tryz.prog 21 [.pointer (some ⟨ps, 0, none⟩)] [stoA ps pd D G (some (g, k))] (fun v Γ => ∃ (D2 : Dsk) (G2 : StG), Fine D2 G2 (m + 2) ∧ D2.n = D.n ∧ (G2.M = curPg G.M (some (g, k)) ∧ ∀ n, (g n).isSome = true → (ov G2.rs n).isSome = true) ∧ (G2.x = G.x ∨ G2.x = ckS G.x G.a G.q) ∧ v = .int .i64 0 ∧ Γ = [stoA ps pd D2 G2 none]) := by
  intro z R w H
  obtain ⟨X, hX, H⟩ := H.sto
  obtain ⟨ho1, ho2⟩ := hX.own _ rfl
  have h1 := hF.gen
  have h2 := hF.epoch
  have h3 := hF.q
  have hL := hX.l
  have hc := ckS_f G.x G.a G.q
  refine Ret.mono (Cn.at (commit_c ps pd X.pt X.pl X.md X.mm G.x X.sL X.nu X.hq g k D G.B G.rs G.ptl G.a G.q G.u G.b G.sure hX.inv hX.l hX.ok hX.nu (by omega) (fun i => by have := hF.ver i; omega) ho2 ho1) H 7 [0, 1, 2, 3, 4, 6, 5] rfl rfl) ?_
  rintro v w' ⟨Γ', (⟨h4, rfl, rfl⟩ | ⟨h4, hq2, D2, x2, B2, rs2, a2, u2, sure2, hs, hS2, ⟨hM2, hsm2⟩, hx2, hcl2, hD2, rfl, rfl⟩ | ⟨_, c, hq2, D2, x2, B2, rs2, ptl2, a2, q2, u2, b2, sure2, hne, hw, _⟩), H'⟩
  · subst h4
    have hg : ∀ n, g n = none := H.says 6 rfl (fun h q => by obtain ⟨es, clk, h1, h2, _⟩ := q; exact h1.nil_iff.1 h2)
    exact ⟨_, ⟨D, G, hF.le (by omega), rfl, ⟨by funext n; show _ = (g n).getD _; rw [hg]; rfl, fun n hn => by rw [hg] at hn; cases hn⟩, .inl rfl, rfl, rfl⟩, H'.toSto (X := X) 6 ⟨hX.inv, hX.l, hX.ok, hX.nu, fun o e => (by cases e)⟩ rfl⟩
  · have hx3 : x2.start = G.x.start ∧ x2.len = G.x.len ∧ x2.epoch = G.x.epoch ∧ x2.gen ≤ G.x.gen + 1 ∧ G.x.gen ≤ x2.gen := by
      rcases hx2 with rfl | rfl
      · exact ⟨rfl, rfl, rfl, by omega, by omega⟩
      · exact ⟨rfl, rfl, rfl, by omega, by omega⟩
    refine ⟨_, ⟨D2, ⟨x2, B2, rs2, [], a2, G.q + 1, u2, false, sure2⟩, ⟨hcl2 hF.clean, rfl, fun i => by have := hD2.2 i; have := hF.ver i; omega, by show x2.gen ≤ _; omega, by show x2.epoch ≤ _; omega, by show G.q + 1 ≤ _; omega⟩, hD2.1, ⟨?_, hsm2⟩, hx2, rfl, rfl⟩, H'.toSto (X := ⟨X.pl, X.pt, X.md, X.mm, X.sL, X.nu, hq2⟩) 6 ⟨hS2, by show X.sL.start = x2.start ∧ X.sL.len = x2.len ∧ X.sL.epoch = x2.epoch; omega, by rw [hD2.1]; exact hX.ok, hX.nu, fun o e => (by cases e)⟩ rfl⟩
    show pgMap (ov rs2) B2 = _
    rw [hM2, pgMap_ov]; rfl
  · rcases hw with g | g
    · exact absurd hF.clean g
    · omega
theorem sync_s (ps pd : Nat) (D : Dsk) (G : StG) (m : Nat) (hF : Fine D G m) : Cn Tryz.prog 23 [.pointer (some ⟨ps, 0, none⟩)] [stoA ps pd D G none] (fun v Γ => v = .int .i64 0 ∧ Fine D.fl { G with sure := G.rs.length } m ∧ Γ = [stoA ps pd D.fl { G with sure := G.rs.length } none]) := by
  intro z R w H
  obtain ⟨X, hX, H⟩ := H.sto
  refine Ret.mono (Cn.at (ssync_c ps pd X.pt X.md G.x _ _ D) H 6 [0, 3, 1, 2, 4, 5] rfl rfl) ?_
  rintro v w' ⟨Γ', (⟨h1, _⟩ | ⟨_, rfl, rfl⟩), H'⟩
  · exact absurd h1 hF.clean.flb
  · have H3 := H'.pick 6 [0, 2, 3, 1, 4, 5] rfl
    exact ⟨_, ⟨rfl, ⟨hF.clean.fl, hF.b, fun i => Nat.zero_le _, hF.gen, hF.epoch, hF.q⟩, rfl⟩, H3.toSto (X := X) 6 ⟨hX.inv.flush, hX.l, hX.ok, hX.nu, fun o e => (by cases e)⟩ rfl⟩
def swG (G : StG) (s l : Int) : StG := ⟨swS G.x s l, G.B, [], [], 0, 1, 0, false, 0⟩
end Go.Proofs.YtbegkbjigbkljaaGreatDoor
namespace Go.Proofs.YtbegkbjigbkljaaGreatDoor
structure Bnd (D : Dsk) (G : StG) (m : Nat) : Prop where
  ver : ∀ i, (D.ver i).length ≤ m
  gen : G.x.gen ≤ m
  epoch : G.x.epoch ≤ m
  q : G.q ≤ m
theorem Bnd.le {D : Dsk} {G : StG} {m m' : Nat} (h : Bnd D G m) (e : m ≤ m') : Bnd D G m' :=
  ⟨fun i => by have := h.ver i; omega, by have := h.gen; omega, by have := h.epoch; omega, by have := h.q; omega⟩
theorem Fine.bnd {D : Dsk} {G : StG} {m : Nat} (h : Fine D G m) : Bnd D G m := ⟨h.ver, h.gen, h.epoch, h.q⟩
theorem Bnd.fine {D : Dsk} {G : StG} {m : Nat} (h : Bnd D G m) (a : Clean D ∧ G.b = false) : Fine D G m := ⟨a.1, a.2, h.ver, h.gen, h.epoch, h.q⟩
structure Mv (D : Dsk) (G : StG) (D2 : Dsk) (G2 : StG) : Prop where
  n : D2.n = D.n
  M : G2.M = G.M
  pages : G2.x.pages = G.x.pages
  sure : G.sure = G.rs.length → G2.sure = G2.rs.length
theorem Mv.refl (D : Dsk) (G : StG) : Mv D G D G := ⟨rfl, rfl, rfl, fun h => h⟩
theorem Mv.trans {D D2 D3 : Dsk} {G G2 G3 : StG} (h : Mv D G D2 G2) (h' : Mv D2 G2 D3 G3) : Mv D G D3 G3 := ⟨h'.n.trans h.n, h'.M.trans h.M, h'.pages.trans h.pages, fun e => h'.sure (h.sure e)⟩
theorem check_g (ps pd : Nat) (D : Dsk) (G : StG) (m : Nat) (hF : Bnd D G m) (hm : m ≤ 1000000000) :
    Cn Tryz.prog 52 [.pointer (some ⟨ps, 0, none⟩)] [stoA ps pd D G none] (fun v Γ => ∃ (c : Int) (D2 : Dsk) (G2 : StG), Bnd D2 G2 (m + 1) ∧ Mv D G D2 G2 ∧ (G2.x.start = G.x.start ∧ G2.x.len = G.x.len) ∧ (Clean D ∧ G.b = false → c = 0 ∧ (Clean D2 ∧ G2.b = false) ∧ G2.home) ∧ v = .int .i64 c ∧ Γ = [stoA ps pd D2 G2 none]) := by
  intro z R w H
  obtain ⟨X, hX, H⟩ := H.sto
  have h1 := hF.gen
  have h2 := hF.epoch
  have h3 := hF.q
  refine Ret.mono (Cn.at (check_pt_c ps pd X.pt X.pl X.md G.x X.sL _ X.nu X.hq D G.B G.rs G.ptl G.a G.q G.u G.b G.sure hX.inv hX.l (by omega) (fun i => by have := hF.ver i; omega)) H 6 [0, 1, 2, 3, 4, 5] rfl rfl) ?_
  rintro v w' ⟨Γ', (⟨hn, hb, hu, rfl, rfl⟩ | ⟨D2, hne, hS2, hcl2, hn2, hv2, rfl, rfl⟩ | ⟨c, D2, sure2, hne, hw, ⟨hS2, hsu⟩, hn2, hv2, rfl, rfl⟩), H'⟩
  · exact ⟨_, ⟨0, D, G, hF.le (by omega), Mv.refl D G, ⟨rfl, rfl⟩, fun a => ⟨rfl, a, hn⟩, rfl, rfl⟩, H'.toSto (X := X) 6 hX rfl⟩
  · exact ⟨_, ⟨0, D2, ⟨ckS G.x G.a G.q, pgMap (ov G.rs) G.B, [], [], G.a, G.q, 0, false, 0⟩, ⟨fun i => by rw [hv2]; simp, by show G.x.gen + 1 ≤ _; omega, by show G.x.epoch ≤ _; omega, by show G.q ≤ _; omega⟩, ⟨hn2, rfl, rfl, fun _ => rfl⟩, ⟨rfl, rfl⟩, fun a => ⟨rfl, ⟨hcl2 a.1, rfl⟩, fun _ => rfl⟩, rfl, rfl⟩, H'.toSto (X := X) 6 ⟨hS2, hX.l, by rw [hn2]; exact hX.ok, hX.nu, fun o e => (by cases e)⟩ rfl⟩
  · have hs2 := hS2.p.sure
    exact ⟨_, ⟨c, D2, { G with sure := sure2 }, ⟨fun i => by have := hv2 i; have := hF.ver i; omega, by show G.x.gen ≤ _; omega, by show G.x.epoch ≤ _; omega, by show G.q ≤ _; omega⟩, ⟨hn2, rfl, rfl, fun e => by show sure2 = G.rs.length; omega⟩, ⟨rfl, rfl⟩, fun a => by
      rcases hw with g | g
      · exact absurd a.1 g
      · omega, rfl, rfl⟩, H'.toSto (X := X) 6 ⟨hS2, hX.l, by rw [hn2]; exact hX.ok, hX.nu, fun o e => (by cases e)⟩ rfl⟩
theorem switch_g (ps pd : Nat) (D : Dsk) (G : StG) (m : Nat) (hF : Bnd D G m) (hm : m ≤ 1000000000) (s l : Int) (hh : G.home) :
    Cn Tryz.prog 53 [.pointer (some ⟨ps, 0, none⟩), .int .i64 s, .int .i64 l] [stoA ps pd D G none] (fun v Γ => (∃ (c : Int) (D2 : Dsk), c ≠ 0 ∧ Bnd D2 G (m + 1) ∧ Mv D G D2 G ∧ (Clean D → (swS G.x s l).Ok (D.n : Int) → False) ∧ v = .int .i64 c ∧ Γ = [stoA ps pd D2 G none]) ∨ (∃ D2 : Dsk, Bnd D2 (swG G s l) (m + 1) ∧ Mv D G D2 (swG G s l) ∧ (Clean D → Clean D2) ∧ v = .int .i64 0 ∧ Γ = [stoA ps pd D2 (swG G s l) none])) := by
  intro z R w H
  obtain ⟨X, hX, H⟩ := H.sto
  have h1 := hF.gen
  have h2 := hF.epoch
  have h3 := hF.q
  refine Ret.mono (Cn.at (switch_c ps pd X.pt X.pl X.md G.x X.sL _ X.nu X.hq D G.B G.rs G.ptl G.a G.q G.u G.b G.sure hX.inv hX.l (by omega) (fun i => by have := hF.ver i; omega) s l (by omega)) H 6 [0, 1, 2, 3, 4, 5] rfl rfl) ?_
  rintro v w' ⟨Γ', (⟨hn, rfl, rfl⟩ | ⟨hn, hy, rfl, rfl⟩ | ⟨hn, hy, hb, rfl, rfl⟩ | ⟨hn, hy, _, pl2, hS2, rfl, rfl⟩), H'⟩
  · exact absurd hh hn
  · exact ⟨_, .inl ⟨1, D, by decide, hF.le (by omega), Mv.refl D G, fun _ h => hy h, rfl, rfl⟩, H'.toSto (X := X) 6 hX rfl⟩
  · exact ⟨_, .inl ⟨11, D.wf, by decide, ⟨fun i => by have := hF.ver i; show (D.ver i).length ≤ _; omega, by omega, by omega, by omega⟩, ⟨rfl, rfl, rfl, fun e => e⟩, fun a _ => a.bad hb, rfl, rfl⟩, H'.toSto (X := X) 6 ⟨hX.inv.f rfl rfl rfl, hX.l, hX.ok, hX.nu, hX.own⟩ rfl⟩
  · have hr := ov_none hn (fun j r h => (hX.inv.p.recs j r h).2.1.1)
    have H4 := H'.mono 4 (B := pgsA X.md noPgs X.hq) rfl (fun h q => by rw [hr] at q; exact q)
    refine ⟨_, .inr ⟨svD D (swS G.x s l), ⟨fun i => ?_, by show G.x.gen + 1 ≤ _; omega, by show G.x.epoch + 1 ≤ _; omega, by show (1 : Int) ≤ _; omega⟩, ⟨rfl, ?_, rfl, fun _ => rfl⟩, fun a => a.sv _, rfl, rfl⟩, H4.toSto (X := ⟨pl2, X.pt, X.md, X.mm, swS G.x s l, decide ((swS G.x s l).epoch < 4294967296), X.hq⟩) 6 ⟨hS2, ⟨rfl, rfl, rfl⟩, hy, rfl, fun o e => (by cases e)⟩ rfl⟩
    · by_cases e : i = ((swS G.x s l).gen % 2).toNat
      · rw [e, (sv_here D _).2]; simp
      · rw [(sv_out D _ i e).2]; have := hF.ver i; omega
    · rw [home_M hh]; exact home_M (G := swG G s l) (fun _ => rfl)
theorem crash_g (ps pd : Nat) (D : Dsk) (G : StG) (own : Txn) (m : Nat) (hF : Bnd D G m) (hm : m ≤ 1000000000) (v : Value) (pk : List Int) (A : Asn) (hA : ∀ h, A h → rdH 1 v pk.length (pk.map (Value.int .i64)) h) :
    Cn Tryz.prog 25 [.pointer (some ⟨pd, 0, none⟩), v] [stoA ps pd D G own, A] (fun v Γ => ∃ D2 : Dsk, Clean D2 ∧ D2.n = D.n ∧ OInv D2 G.x G.B (fun got => G.sure ≤ got.length ∧ got.length ≤ G.rs.length ∧ got = G.rs.take got.length) ∧ v = .tuple #[] ∧ Γ = [diskA pd D2, A]) := by
  intro z R w H
  obtain ⟨X, hX, H⟩ := H.sto
  have h3 := hF.q
  have H2 : Sep z (diskA pd D :: A :: R) w := by
    cases own with
    | none => exact H.pick 7 [3, 6] rfl
    | some o => exact H.pick 8 [3, 7] rfl
  refine Ret.mono (Cn.at (crash_c pd D v pk A hA (fun i => by have := hF.ver i; omega)) H2 2 [0, 1] rfl rfl) ?_
  rintro v w' ⟨Γ', ⟨D2, hc, hf, rfl, rfl⟩, H'⟩
  exact ⟨_, ⟨D2, ⟨hf.1, hf.2.1, hf.2.2.1, hf.2.2.2.1⟩, hc.n, hX.inv.crashed (by omega) hc, rfl, rfl⟩, H'⟩
end Go.Proofs.YtbegkbjigbkljaaGreatDoor
namespace Go.Proofs.YtbegkbjigbkljaaGreatDoor
open Go.RowKit
theorem rnew_c (ps : Nat) : Cn Tryz.prog 11 [.pointer (some ⟨ps, 0, none⟩), .int .i64 400] [] (fun v Γ => ∃ pm, v = .pointer (some ⟨pm, 0, none⟩) ∧ Γ = [blk pm [.pointer (some ⟨ps, 0, none⟩), .int .i64 400, .pointer none] 103]) := by
 intro z R w H'; have H : Sep z (R) w := H'
 clear H'; refine enter Tryz.func11 rfl 11 Tryz.ntmps11 rfl (k_seq (s_region (s_M 1 rfl rfl (s_end (k_seq (k_seq (s_region (s_M 1 rfl rfl (s_do rfl rfl rfl (d_eql_pn rfl (by kernel_rfl) rfl rfl) (s_end (k_false rfl (k_skip (k_seq ?_))))))))))))); refine s_region (s_M 2 rfl rfl (s_do rfl rfl rfl (d_build rfl rfl (out := [.pointer (some ⟨ps, 0, none⟩), .int .i64 400, .pointer none]) (by kernel_rfl)) (s_go rfl rfl rfl (n_box H rfl rfl (cs := [.pointer (some ⟨ps, 0, none⟩), .int .i64 400, .pointer none]) rfl) ?_))); rintro _ w ⟨b1, rfl, H'⟩; have H := H'.l1; clear H'; refine s_M 1 rfl rfl (s_end (k_ret (doneL rfl [.pointer (some ⟨b1, 0, none⟩)] ⟨rfl, trivial⟩ (v := .pointer (some ⟨b1, 0, none⟩)) rfl ?_))); exact ⟨[blk b1 [.pointer (some ⟨ps, 0, none⟩), .int .i64 400, .pointer none] 103], ⟨_, rfl, rfl⟩, H⟩
theorem rnew0_c  : Cn Tryz.prog 11 [.pointer none, .int .i64 400] [] (fun v Γ => v = .pointer none ∧ Γ = []) := by
 intro z R w H'; have H : Sep z (R) w := H'
 clear H'; refine enter Tryz.func11 rfl 11 Tryz.ntmps11 rfl (k_seq (s_region (s_M 1 rfl rfl (s_end (k_seq (k_seq (s_region (s_M 1 rfl rfl (s_do rfl rfl rfl (d_eql_nn rfl (by kernel_rfl) rfl rfl) (s_end (k_true rfl (k_seq (s_region ?_))))))))))))); refine s_M 1 rfl rfl (s_end (k_ret (doneL rfl [.pointer none] ⟨rfl, trivial⟩ (v := .pointer none) rfl ?_))); exact ⟨[], ⟨rfl, rfl⟩, H⟩
theorem busy0_c (pm ps : Nat) : Cn Tryz.prog 14 [.pointer (some ⟨pm, 0, none⟩)] [blk pm [.pointer (some ⟨ps, 0, none⟩), .int .i64 400, .pointer none] 103] (fun v Γ => v = .bool false ∧ Γ = [blk pm [.pointer (some ⟨ps, 0, none⟩), .int .i64 400, .pointer none] 103]) := by
 intro z R w H'; have H : Sep z (blk pm [.pointer (some ⟨ps, 0, none⟩), .int .i64 400, .pointer none] 103 :: R) w := H'
 clear H'; refine enter Tryz.func14 rfl 8 Tryz.ntmps14 rfl (k_seq (s_region (s_M 1 rfl rfl (s_end (k_seq (s_region (s_L 4 [2, 0] (mm1 (H.blk 0 rfl) mm0) rfl (by kernel_rfl) rfl (s_do rfl rfl rfl (d_neq_nn rfl (by kernel_rfl) rfl rfl) (s_M 1 rfl rfl (s_end (k_ret (doneL rfl [.bool false] ⟨rfl, trivial⟩ (v := .bool false) rfl ?_)))))))))))); exact ⟨[blk pm [.pointer (some ⟨ps, 0, none⟩), .int .i64 400, .pointer none] 103], ⟨rfl, rfl⟩, H⟩
theorem busy1_c (pm ps pl : Nat) : Cn Tryz.prog 14 [.pointer (some ⟨pm, 0, none⟩)] [blk pm [.pointer (some ⟨ps, 0, none⟩), .int .i64 400, .pointer (some ⟨pl, 0, none⟩)] 103] (fun v Γ => v = .bool true ∧ Γ = [blk pm [.pointer (some ⟨ps, 0, none⟩), .int .i64 400, .pointer (some ⟨pl, 0, none⟩)] 103]) := by
 intro z R w H'; have H : Sep z (blk pm [.pointer (some ⟨ps, 0, none⟩), .int .i64 400, .pointer (some ⟨pl, 0, none⟩)] 103 :: R) w := H'
 clear H'; refine enter Tryz.func14 rfl 8 Tryz.ntmps14 rfl (k_seq (s_region (s_M 1 rfl rfl (s_end (k_seq (s_region (s_L 4 [2, 0] (mm1 (H.blk 0 rfl) mm0) rfl (by kernel_rfl) rfl (s_do rfl rfl rfl (d_neq_pn rfl (by kernel_rfl) rfl rfl) (s_M 1 rfl rfl (s_end (k_ret (doneL rfl [.bool true] ⟨rfl, trivial⟩ (v := .bool true) rfl ?_)))))))))))); exact ⟨[blk pm [.pointer (some ⟨ps, 0, none⟩), .int .i64 400, .pointer (some ⟨pl, 0, none⟩)] 103], ⟨rfl, rfl⟩, H⟩
theorem ask1_c (pm ps pl : Nat) (s l : Int) : Cn Tryz.prog 15 [.pointer (some ⟨pm, 0, none⟩), .int .i64 s, .int .i64 l] [blk pm [.pointer (some ⟨ps, 0, none⟩), .int .i64 400, .pointer (some ⟨pl, 0, none⟩)] 103] (fun v Γ => v = .int .i64 17 ∧ Γ = [blk pm [.pointer (some ⟨ps, 0, none⟩), .int .i64 400, .pointer (some ⟨pl, 0, none⟩)] 103]) := by
 intro z R w H'; have H : Sep z (blk pm [.pointer (some ⟨ps, 0, none⟩), .int .i64 400, .pointer (some ⟨pl, 0, none⟩)] 103 :: R) w := H'
 clear H'; refine enter Tryz.func15 rfl 43 Tryz.ntmps15 rfl (k_seq (s_region (s_M 1 rfl rfl (s_end (k_seq (k_seq (s_region (s_L 4 [2, 0] (mm1 (H.blk 0 rfl) mm0) rfl (by kernel_rfl) rfl (s_do rfl rfl rfl (d_neq_pn rfl (by kernel_rfl) rfl rfl) (s_end (k_true rfl (k_seq (s_region ?_))))))))))))); refine s_M 1 rfl rfl (s_end (k_ret (doneL rfl [.int .i64 17] ⟨rfl, trivial⟩ (v := .int .i64 17) rfl ?_))); exact ⟨[blk pm [.pointer (some ⟨ps, 0, none⟩), .int .i64 400, .pointer (some ⟨pl, 0, none⟩)] 103], ⟨rfl, rfl⟩, H⟩
set_option maxHeartbeats 2000000 in
theorem ask0_c (pm ps pd : Nat) (D : Dsk) (G : StG) (hb : G.x.gen ≤ 2000000000 ∧ G.x.epoch ≤ 2000000000) (s l : Int) : Cn Tryz.prog 15 [.pointer (some ⟨pm, 0, none⟩), .int .i64 s, .int .i64 l] [blk pm [.pointer (some ⟨ps, 0, none⟩), .int .i64 400, .pointer none] 103, stoA ps pd D G none] (fun v Γ => (¬ (swS G.x s l).Ok 400 ∧ v = .int .i64 1 ∧ Γ = [blk pm [.pointer (some ⟨ps, 0, none⟩), .int .i64 400, .pointer none] 103, stoA ps pd D G none]) ∨ ((swS G.x s l).Ok 400 ∧ ∃ pl, v = .int .i64 0 ∧ Γ = [blk pm [.pointer (some ⟨ps, 0, none⟩), .int .i64 400, .pointer (some ⟨pl, 0, none⟩)] 103, blk pl [.int .i64 s, .int .i64 l] 110, stoA ps pd D G none])) := by
 intro z R w H'; have H : Sep z (blk pm [.pointer (some ⟨ps, 0, none⟩), .int .i64 400, .pointer none] 103 :: stoA ps pd D G none :: R) w := H'
 clear H'; have hxg := Sup.get (H.says 1 rfl (fun h q => (stoA.inv q).ok))
 refine enter Tryz.func15 rfl 43 Tryz.ntmps15 rfl (k_seq (s_region (s_M 1 rfl rfl (s_end (k_seq (k_seq (s_region (s_L 4 [2, 0] (mm1 (H.blk 0 rfl) mm0) rfl (by kernel_rfl) rfl (s_do rfl rfl rfl (d_neq_nn rfl (by kernel_rfl) rfl rfl) (s_end (k_false rfl (k_skip (k_seq ?_))))))))))))); refine s_region (s_L 4 [0, 0] (mm1 (H.blk 0 rfl) mm0) rfl (by kernel_rfl) rfl (s_C rfl rfl rfl rfl rfl (fun w => Tryz.call13 _ w) (super_s ps pd D G none) H.f1 rfl ?_)); rintro _ w _ ⟨rfl, rfl⟩ H'; have H := H'.l2; clear H'; refine s_go rfl rfl rfl (n_alloc (P := Tryz.prog) H rfl (zs := [.int .i64 0, .int .i64 0, .int .i64 0, .int .i64 0, .int .i64 0, .int .i64 0, .int .i64 0]) (by kernel_rfl)) ?_; rintro _ w ⟨b1, rfl, H'⟩; have H := H'.l3; clear H'; refine s_put rfl rfl (n_store 0 H rfl rfl rfl rfl (vs := [.int .i64 G.x.gen, .int .i64 G.x.epoch, .int .i64 G.x.pages, .int .i64 G.x.start, .int .i64 G.x.len, .int .i64 G.x.head, .int .i64 G.x.seq]) rfl (by simp [u8, u32, Value.oneCell']) (by kernel_rfl) (by simp) (out := [.int .i64 G.x.gen, .int .i64 G.x.epoch, .int .i64 G.x.pages, .int .i64 G.x.start, .int .i64 G.x.len, .int .i64 G.x.head, .int .i64 G.x.seq]) rfl) ?_; rintro w H'; have H := H'.l3; clear H'; refine s_end (k_seq (s_region (s_L 2 [0, 0] (mm1 (H.blk 0 rfl) mm0) rfl (by kernel_rfl) rfl (s_do rfl rfl rfl (d_add64 rfl rfl rfl (r := G.x.gen + 1) (by omega) (by omega)) (s_L 2 [1, 0] (mm1 (H.blk 0 rfl) mm0) rfl (by kernel_rfl) rfl (s_do rfl rfl rfl (d_add64 rfl rfl rfl (r := G.x.epoch + 1) (by omega) (by omega)) (s_L 4 [2, 0] (mm1 (H.blk 0 rfl) mm0) rfl (by kernel_rfl) rfl (s_do rfl rfl rfl (d_build rfl rfl (out := [.int .i64 (G.x.gen + 1), .int .i64 (G.x.epoch + 1), .int .i64 G.x.pages, .int .i64 s, .int .i64 l, .int .i64 0, .int .i64 1]) (by kernel_rfl)) (s_put rfl rfl (n_store 0 H rfl rfl rfl rfl (vs := [.int .i64 (G.x.gen + 1), .int .i64 (G.x.epoch + 1), .int .i64 G.x.pages, .int .i64 s, .int .i64 l, .int .i64 0, .int .i64 1]) rfl (by simp [u8, u32, Value.oneCell']) (by kernel_rfl) (by simp) (out := [.int .i64 (G.x.gen + 1), .int .i64 (G.x.epoch + 1), .int .i64 G.x.pages, .int .i64 s, .int .i64 l, .int .i64 0, .int .i64 1]) rfl) ?_)))))))))
 rintro w H'; have H := H'.l3; clear H'; refine s_end (k_seq (k_seq (q_region (Sep z _) (by kernel_rfl) (by kernel_rfl) H.drew (q_do rfl rfl rfl (d_loadAgg rfl rfl (vs := [.int .i64 (G.x.gen + 1), .int .i64 (G.x.epoch + 1), .int .i64 G.x.pages, .int .i64 s, .int .i64 l, .int .i64 0, .int .i64 1]) (by kernel_rfl) (fun _ hx => (hx.blk 0 rfl).part 0 7 _ rfl)) (q_L 4 [1, 0] (fun _ hx => (mm1 (hx.blk 2 rfl) mm0)) rfl (by kernel_rfl) rfl (q_call rfl rfl rfl rfl rfl (fun w => Tryz.call50 _ w) (v := .int .i64 (if (Sup.mk (G.x.gen + 1) (G.x.epoch + 1) G.x.pages s l 0 1).Ok 400 then 0 else 1)) (cq (check_c (Sup.mk (G.x.gen + 1) (G.x.epoch + 1) G.x.pages s l 0 1) _ (by omega)) (by rintro _ _ ⟨rfl, rfl⟩; exact ⟨rfl, rfl⟩) 0 [] [] rfl rfl rfl rfl) (q_M 1 [] rfl (by kernel_rfl) (q_end (fun w H' => ?_))))))))); have H := H'.l3; clear H'; refine k_dec rfl (fun h1 => ?_) (fun h1 => ?_)
 ·refine k_seq (s_region (s_M 1 rfl rfl (s_end (k_ret (doneL rfl [.int .i64 1] ⟨rfl, trivial⟩ (v := .int .i64 1) rfl ?_))))); exact ⟨[blk pm [.pointer (some ⟨ps, 0, none⟩), .int .i64 400, .pointer none] 103, stoA ps pd D G none], .inl ⟨fun hk => absurd (if_pos hk) h1, rfl, rfl⟩, H.perm 3 [2, 1] rfl rfl⟩
 ·refine k_skip (k_seq (s_region (s_M 3 rfl rfl (s_do rfl rfl rfl (d_build rfl rfl (out := [.int .i64 s, .int .i64 l]) (by kernel_rfl)) (s_go rfl rfl rfl (n_box H rfl rfl (cs := [.int .i64 s, .int .i64 l]) rfl) ?_))))); rintro _ w ⟨b2, rfl, H'⟩; have H := H'.l4; clear H'; refine s_Q 2 [2] rfl (by kernel_rfl) (s_put rfl rfl (n_store 3 H rfl rfl rfl rfl (vs := [.pointer (some ⟨b2, 0, none⟩)]) rfl (by simp [u8, u32, Value.oneCell']) (by kernel_rfl) (by simp) (out := [.pointer (some ⟨ps, 0, none⟩), .int .i64 400, .pointer (some ⟨b2, 0, none⟩)]) rfl) ?_); rintro w H'; have H := H'.l4; clear H'; refine s_end (k_seq (s_region (s_M 1 rfl rfl (s_end (k_ret (doneL rfl [.int .i64 0] ⟨rfl, trivial⟩ (v := .int .i64 0) rfl ?_)))))); exact ⟨[blk pm [.pointer (some ⟨ps, 0, none⟩), .int .i64 400, .pointer (some ⟨b2, 0, none⟩)] 103, blk b2 [.int .i64 s, .int .i64 l] 110, stoA ps pd D G none], .inr ⟨Decidable.byContradiction fun g_ => h1 (fun e => absurd ((if_neg g_).symm.trans e) (by decide)), _, rfl, rfl⟩, H.perm 4 [3, 0, 2] rfl rfl⟩
end Go.Proofs.YtbegkbjigbkljaaGreatDoor
namespace Go.Proofs.YtbegkbjigbkljaaGreatDoor
open Go.RowKit
variable {z w : World} in
theorem dirty_w (ps pd : Nat) (D : Dsk) (G : StG) (txn : Txn) : Cn Tryz.prog 51 [.pointer (some ⟨ps, 0, none⟩)] [stoA ps pd D G txn] (fun v Γ => (G.home ∧ ∃ ao c, v = .slice ao 0 c ∧ Γ = [stoA ps pd D G txn]) ∨ (¬ G.home ∧ ∃ (ks : List Int) (g cap : Nat) (rest : List Value), 0 < ks.length ∧ ks.length ≤ cap ∧ cap ≤ 9223372036854775807 ∧ v = .slice (some ⟨g, 0, none⟩) ks.length cap ∧ Γ = [blk g (ks.map (Value.int .i64) ++ rest) 3, stoA ps pd D G txn])) := by
  intro z R w H
  refine Ret.mono (dirty_s ps pd D G txn z R w H) ?_
  rintro v w' ⟨Γ', ⟨ks, hks, rfl⟩, H'⟩
  rcases Nat.eq_zero_or_pos ks.length with e | e
  · obtain ⟨ao, c, hv⟩ := H'.says 0 rfl (fun h q => q.slc)
    rw [e] at hv
    have e2 : ks = [] := List.length_eq_zero_iff.1 e
    subst e2
    refine ⟨_, .inl ⟨fun n => ?_, ao, c, hv, rfl⟩, H'.pick 2 [1] rfl⟩
    cases ho : ov G.rs n with
    | none => rfl
    | some p =>
      have := (hks.2 (n : Int)).2 ⟨by omega, by rw [Int.toNat_natCast, ho]; rfl⟩
      cases this
  · obtain ⟨g, cap, rest, hv, h1, h0, _, H2⟩ := H'.ungrow 0 rfl e
    refine ⟨_, .inr ⟨fun hh => ?_, ks, g, cap, rest, e, h1, h0, hv, rfl⟩, H2⟩
    obtain ⟨k, hk⟩ : ∃ k, k ∈ ks := ⟨ks[0], List.getElem_mem e⟩
    have h2 := ((hks.2 k).1 hk).2
    rw [hh] at h2
    cases h2
theorem step0_c (pm ps : Nat) : Cn Tryz.prog 16 [.pointer (some ⟨pm, 0, none⟩)] [blk pm [.pointer (some ⟨ps, 0, none⟩), .int .i64 400, .pointer none] 103] (fun v Γ => v = .tuple #[.bool false, .int .i64 18] ∧ Γ = [blk pm [.pointer (some ⟨ps, 0, none⟩), .int .i64 400, .pointer none] 103]) := by
 intro z R w H'; have H : Sep z (blk pm [.pointer (some ⟨ps, 0, none⟩), .int .i64 400, .pointer none] 103 :: R) w := H'
 clear H'; refine enter Tryz.func16 rfl 49 Tryz.ntmps16 rfl (k_seq (s_region (s_M 2 rfl rfl (s_end (k_seq (k_seq (s_region (s_L 4 [2, 0] (mm1 (H.blk 0 rfl) mm0) rfl (by kernel_rfl) rfl (s_do rfl rfl rfl (d_eql_nn rfl (by kernel_rfl) rfl rfl) (s_end (k_true rfl (k_seq (s_region ?_))))))))))))); refine s_M 2 rfl rfl (s_end (k_ret (doneL rfl [.bool false, .int .i64 18] ⟨rfl, ⟨rfl, trivial⟩⟩ (v := .tuple #[.bool false, .int .i64 18]) rfl ?_))); exact ⟨[blk pm [.pointer (some ⟨ps, 0, none⟩), .int .i64 400, .pointer none] 103], ⟨rfl, rfl⟩, H⟩
set_option maxHeartbeats 2000000 in
theorem step1_c (pm ps pd pl : Nat) (s l : Int) (D : Dsk) (G : StG) (m : Nat) (hF : Bnd D G m) (hm : m ≤ 1000000000) : Cn Tryz.prog 16 [.pointer (some ⟨pm, 0, none⟩)] [blk pm [.pointer (some ⟨ps, 0, none⟩), .int .i64 400, .pointer (some ⟨pl, 0, none⟩)] 103, blk pl [.int .i64 s, .int .i64 l] 110, stoA ps pd D G none] (fun v Γ => (¬ G.home ∧ ∃ (c : Int) (D2 : Dsk) (G2 : StG), Bnd D2 G2 (m + 1) ∧ Mv D G D2 G2 ∧ (G2.x.start = G.x.start ∧ G2.x.len = G.x.len) ∧ (Clean D ∧ G.b = false → c = 0 ∧ (Clean D2 ∧ G2.b = false) ∧ G2.home) ∧ v = .tuple #[.bool false, .int .i64 c] ∧ Γ = [blk pm [.pointer (some ⟨ps, 0, none⟩), .int .i64 400, .pointer (some ⟨pl, 0, none⟩)] 103, blk pl [.int .i64 s, .int .i64 l] 110, stoA ps pd D2 G2 none]) ∨ (G.home ∧ ∃ (c : Int) (D2 : Dsk), c ≠ 0 ∧ Bnd D2 G (m + 1) ∧ Mv D G D2 G ∧ (Clean D → (swS G.x s l).Ok (D.n : Int) → False) ∧ v = .tuple #[.bool false, .int .i64 c] ∧ Γ = [blk pm [.pointer (some ⟨ps, 0, none⟩), .int .i64 400, .pointer (some ⟨pl, 0, none⟩)] 103, blk pl [.int .i64 s, .int .i64 l] 110, stoA ps pd D2 G none]) ∨ (G.home ∧ ∃ D2 : Dsk, Bnd D2 (swG G s l) (m + 1) ∧ Mv D G D2 (swG G s l) ∧ (Clean D → Clean D2) ∧ v = .tuple #[.bool true, .int .i64 0] ∧ Γ = [blk pm [.pointer (some ⟨ps, 0, none⟩), .int .i64 400, .pointer none] 103, blk pl [.int .i64 s, .int .i64 l] 110, stoA ps pd D2 (swG G s l) none])) := by
 intro z R w H'; have H : Sep z (blk pm [.pointer (some ⟨ps, 0, none⟩), .int .i64 400, .pointer (some ⟨pl, 0, none⟩)] 103 :: blk pl [.int .i64 s, .int .i64 l] 110 :: stoA ps pd D G none :: R) w := H'
 clear H'; refine enter Tryz.func16 rfl 49 Tryz.ntmps16 rfl (k_seq (s_region (s_M 2 rfl rfl (s_end (k_seq (k_seq (s_region (s_L 4 [2, 0] (mm1 (H.blk 0 rfl) mm0) rfl (by kernel_rfl) rfl (s_do rfl rfl rfl (d_eql_pn rfl (by kernel_rfl) rfl rfl) (s_end (k_false rfl (k_skip (k_seq ?_))))))))))))); refine k_seq (s_region (s_L 4 [0, 0] (mm1 (H.blk 0 rfl) mm0) rfl (by kernel_rfl) rfl (s_C rfl rfl rfl rfl rfl (fun w => Tryz.call51 _ w) (dirty_w _ _ _ _ _) H.f2 rfl ?_))); rintro _ w _ (⟨hh6, ao6, c6, rfl, rfl⟩ | ⟨hh6, ks, g6, cap6, rest6, hk6, hkc6, hkx6, rfl, rfl⟩) H'
 ·have H := H'.l3; clear H'; refine s_do rfl rfl rfl (d_len rfl (z := 1) (by kernel_rfl) rfl) (s_M 1 rfl rfl (k_updA 16 (u := .bool (decide ((0 : Int) < 0))) (v := .bool false) rfl (congrArg Value.bool (by decide)) (s_end (k_false rfl (k_skip (k_seq (t_region 18 (by kernel_rfl) (by kernel_rfl) (fun w' x' _ => ?_)))))))); have H' := H.ext0 x'; clear x' H; revert H'; generalize w' = w; intro H'
  have H := H'.l3; clear H'; refine t_L 18 [0, 0, 2, 0, 0, 1, 2, 0, 1, 1] (mm1 (H.blk 1 rfl) (mm1 (H.blk 2 rfl) mm0)) rfl (by kernel_rfl) rfl (t_end (s_C rfl rfl rfl rfl rfl (fun w => Tryz.call53 _ w) (switch_g _ _ _ _ m hF (by omega) s l hh6) H rfl ?_)); rintro _ w _ (⟨c_, D2, hc0, hB2, hMv, hfin, rfl, rfl⟩ | ⟨D2, hB2, hMv, hfin, rfl, rfl⟩) H'
  ·have H := H'.l3; clear H'; refine s_M 1 rfl rfl (s_end (k_seq (k_seq (s_region (s_M 2 rfl rfl (s_end (k_dec rfl (fun h1 => ?_) (fun h1 => ?_))))))))
   ·exact absurd h1 hc0
   ·refine k_skip (k_seq (s_region (s_M 2 rfl rfl (k_updA 47 (u := .bool (decide ((c_ : Int) = 0))) (v := .bool false) rfl (congrArg Value.bool (decide_eq_false hc0)) (s_M 3 rfl rfl (s_end (k_ret (doneL rfl [.bool false, .int .i64 c_] ⟨rfl, ⟨rfl, trivial⟩⟩ (v := .tuple #[.bool false, .int .i64 c_]) rfl ?_)))))))); exact ⟨[blk pm [.pointer (some ⟨ps, 0, none⟩), .int .i64 400, .pointer (some ⟨pl, 0, none⟩)] 103, blk pl [.int .i64 s, .int .i64 l] 110, stoA ps pd D2 G none], .inr (.inl ⟨hh6, _, _, hc0, hB2, hMv, hfin, rfl, rfl⟩), H.perm 3 [1, 2, 0] rfl rfl⟩
  ·have H := H'.l3; clear H'; refine s_M 1 rfl rfl (s_end (k_seq (k_seq (s_region (s_M 2 rfl rfl (k_updA 42 (u := .bool (decide ((0 : Int) = 0))) (v := .bool true) rfl (congrArg Value.bool (by decide)) (s_end (k_true rfl (s_region (s_Q 3 [2] rfl (by kernel_rfl) (s_put rfl rfl (n_store 1 H rfl rfl rfl rfl (vs := [.pointer none]) rfl (by simp [u8, u32, Value.oneCell']) (by kernel_rfl) (by simp) (out := [.pointer (some ⟨ps, 0, none⟩), .int .i64 400, .pointer none]) rfl) ?_))))))))))); rintro w H'; have H := H'.l3; clear H'; refine s_end (k_seq (s_region (s_M 2 rfl rfl (k_updA 47 (u := .bool (decide ((0 : Int) = 0))) (v := .bool true) rfl (congrArg Value.bool (by decide)) (s_M 3 rfl rfl (s_end (k_ret (doneL rfl [.bool true, .int .i64 0] ⟨rfl, ⟨rfl, trivial⟩⟩ (v := .tuple #[.bool true, .int .i64 0]) rfl ?_)))))))); exact ⟨[blk pm [.pointer (some ⟨ps, 0, none⟩), .int .i64 400, .pointer none] 103, blk pl [.int .i64 s, .int .i64 l] 110, stoA ps pd D2 (swG G s l) none], .inr (.inr ⟨hh6, _, hB2, hMv, hfin, rfl, rfl⟩), H.perm 3 [1, 2, 0] rfl rfl⟩
 ·have H := H'.l4; clear H'; refine s_do rfl rfl rfl (d_len rfl (z := 1) (by kernel_rfl) rfl) (s_M 1 rfl rfl (s_end (k_dec rfl (fun h2 => ?_) (fun h2 => ?_))))
  ·refine k_seq (s_region (s_L 4 [0, 0] (mm1 (H.blk 2 rfl) mm0) rfl (by kernel_rfl) rfl (s_C rfl rfl rfl rfl rfl (fun w => Tryz.call52 _ w) (check_g _ _ _ _ m hF (by omega)) H.f1 rfl ?_))); rintro _ w _ ⟨c_, D2, G2, hB2, hMv, hsl, hfin, rfl, rfl⟩ H'; have H := H'.l4; clear H'; refine s_M 2 rfl rfl (s_end (k_ret (doneL rfl [.bool false, .int .i64 c_] ⟨rfl, ⟨rfl, trivial⟩⟩ (v := .tuple #[.bool false, .int .i64 c_]) rfl ?_))); exact ⟨[blk pm [.pointer (some ⟨ps, 0, none⟩), .int .i64 400, .pointer (some ⟨pl, 0, none⟩)] 103, blk pl [.int .i64 s, .int .i64 l] 110, stoA ps pd D2 G2 none], .inl ⟨hh6, _, _, _, hB2, hMv, hsl, hfin, rfl, rfl⟩, H.perm 4 [2, 3, 0] rfl rfl⟩
  ·(exfalso; omega)
end Go.Proofs.YtbegkbjigbkljaaGreatDoor
namespace Go.Proofs.YtbegkbjigbkljaaGreatDoor
open Go.RowKit
def Ins (s : Sup) (D D' : Dsk) : Prop := D'.n = D.n ∧ (∀ i : Nat, ¬ (s.start ≤ (i : Int) ∧ (i : Int) < s.start + s.len) → D'.ver i = D.ver i) ∧ ∀ i, (D'.ver i).length ≤ (D.ver i).length + 2
theorem wr_out (D : Dsk) (x : Nat) (ps : List (List UInt8)) (j : Nat) (h : j < x ∨ x + ps.length ≤ j) : (D.wr x ps).ver j = D.ver j := Dsk.ws_ver false ps { D with f2 := tick D.f2 } x j h
theorem Ins.refl (s : Sup) (D : Dsk) : Ins s D D := ⟨rfl, fun _ _ => rfl, fun _ => by omega⟩
theorem Ins.one {s : Sup} {D : Dsk} {x : Nat} {ps : List (List UInt8)} (h1 : s.start ≤ x) (h2 : (x : Int) + ps.length ≤ s.start + s.len) : Ins s D (D.wr x ps) :=
  ⟨Dsk.wr_n _ _ _, fun i hi => wr_out _ _ _ _ (by omega), fun i => by have := Dsk.wr_len D x ps i; omega⟩
theorem Ins.two {s : Sup} {D : Dsk} {x y : Nat} {ps qs : List (List UInt8)} (h1 : s.start ≤ x) (h2 : (x : Int) + ps.length ≤ s.start + s.len) (h3 : s.start ≤ y) (h4 : (y : Int) + qs.length ≤ s.start + s.len) : Ins s D ((D.wr x ps).wr y qs) :=
  ⟨by rw [Dsk.wr_n, Dsk.wr_n], fun i hi => by rw [wr_out _ _ _ _ (by omega), wr_out _ _ _ _ (by omega)], fun i => by have := Dsk.wr_len D x ps i; have := Dsk.wr_len (D.wr x ps) y qs i; omega⟩
theorem cut_c (pd : Nat) (D : Dsk) (x : Int) : Cn Tryz.prog 24 [.pointer (some ⟨pd, 0, none⟩), .int .i64 x] [diskA pd D] (fun v Γ => (¬ (0 ≤ x ∧ x ≤ 1099511627776) ∧ v = .int .i64 1 ∧ Γ = [diskA pd D]) ∨ ((0 ≤ x ∧ x ≤ 1099511627776) ∧ v = .int .i64 0 ∧ Γ = [diskA pd { D with cut := true, left := x }])) := by
 intro z R w H'; have H : Sep z (diskA pd D :: R) w := H'
 clear H'; obtain ⟨bd, m, f0, bs, es, clk, hq, hD, hIn, H'⟩ := H.disk; clear H; have hn1 := hD.n1; have hn2 := hD.n2; have hf1 := hD.f1; have hf2 := hD.f2; have hf3 := hD.f3; have hlf := hD.left; have hbl := hIn.len
 have H := H'.l5; clear H'; refine enter Tryz.func24 rfl 18 Tryz.ntmps24 rfl (k_seq (s_region (s_M 1 rfl rfl (s_end (k_seq (k_seq (s_region (s_M 3 rfl rfl (s_part 7 rfl (fun h1 => ?_) (fun h1 => ?_))))))))))
 ·refine s_M 3 rfl rfl (s_end (k_true rfl (k_seq (s_region (s_M 1 rfl rfl (s_end (k_ret (doneL rfl [.int .i64 1] ⟨rfl, trivial⟩ (v := .int .i64 1) rfl ?_)))))))); have H' := Sep.toDisk (D := D) (pd := pd) (bd := bd) (m := m) (f0 := f0) (bs := bs) (es := es) (clk := clk) (hq := hq) (Γ := R) H hD hIn
  have H := H'.l1; clear H'; exact ⟨[diskA pd D], .inl ⟨by omega, rfl, rfl⟩, H⟩
 ·refine s_M 3 rfl rfl (s_end (k_dec rfl (fun h2 => ?_) (fun h2 => ?_)))
  ·refine k_seq (s_region (s_M 1 rfl rfl (s_end (k_ret (doneL rfl [.int .i64 1] ⟨rfl, trivial⟩ (v := .int .i64 1) rfl ?_))))); have H' := Sep.toDisk (D := D) (pd := pd) (bd := bd) (m := m) (f0 := f0) (bs := bs) (es := es) (clk := clk) (hq := hq) (Γ := R) H hD hIn
   have H := H'.l1; clear H'; exact ⟨[diskA pd D], .inl ⟨by omega, rfl, rfl⟩, H⟩
  ·refine k_skip (k_seq (s_region (s_Q 5 [6] rfl (by kernel_rfl) (s_put rfl rfl (n_store 0 H rfl rfl rfl rfl (vs := [.bool true]) rfl (by simp [u8, u32, Value.oneCell']) (by kernel_rfl) (by simp) (out := [.slice (some ⟨bd, 0, none⟩) (D.n * 256) (D.n * 256), .map (some m), .int .i64 f0, .int .i64 D.f1, .int .i64 D.f2, .int .i64 D.f3, .bool true, .int .i64 D.left]) rfl) ?_)))); rintro w H'; have H := H'.l5; clear H'; refine s_Q 2 [7] rfl (by kernel_rfl) (s_put rfl rfl (n_store 0 H rfl rfl rfl rfl (vs := [.int .i64 x]) rfl (by simp [u8, u32, Value.oneCell']) (by kernel_rfl) (by simp) (out := [.slice (some ⟨bd, 0, none⟩) (D.n * 256) (D.n * 256), .map (some m), .int .i64 f0, .int .i64 D.f1, .int .i64 D.f2, .int .i64 D.f3, .bool true, .int .i64 x]) rfl) ?_); rintro w H'; have H := H'.l5; clear H'; refine s_end (k_seq (s_region (s_M 1 rfl rfl (s_end (k_ret (doneL rfl [.int .i64 0] ⟨rfl, trivial⟩ (v := .int .i64 0) rfl ?_)))))); have H' := Sep.toDisk (D := { D with cut := true, left := x }) (pd := pd) (bd := bd) (m := m) (f0 := f0) (bs := bs) (es := es) (clk := clk) (hq := hq) (Γ := R) H (hD.f hD.f1 hD.f2 hD.f3 (by omega)) (hIn.f _ _ _ _ _)
   have H := H'.l1; clear H'; exact ⟨[diskA pd ({ D with cut := true, left := x })], .inr ⟨by omega, rfl, rfl⟩, H⟩
end Go.Proofs.YtbegkbjigbkljaaGreatDoor
namespace Go.Proofs.YtbegkbjigbkljaaGreatDoor
open Go.RowKit
theorem blk_rd0 {b : Nat} {xs : List Value} {ty : TypeId} {h : Hp} (a : blk b xs ty h) (hx : xs.length = 240) : rdH 1 (.slice (some ⟨b, 0, none⟩) 240 240) 240 xs h := a.rd (by omega) (by omega) (by omega) (by simp; exact List.take_of_length_le (by omega))
def pgF (kd fl : Int) : Pg := ⟨kd, List.replicate 240 (byt fl)⟩
theorem pgF_ok {kd : Int} (fl : Int) (h : 1 ≤ kd ∧ kd ≤ 5) : (pgF kd fl).Ok := ⟨h, by simp [pgF]⟩
theorem pgF_len (kd fl : Int) : (pgF kd fl).body.length = 240 := by simp [pgF]
theorem fill_step (i : Nat) (x y : UInt8) (hi : i < 240) : ((List.replicate i x ++ List.replicate (240 - i) y).map u8).take i ++ [u8 x] ++ ((List.replicate i x ++ List.replicate (240 - i) y).map u8).drop (i + 1) = (List.replicate (i + 1) x ++ List.replicate (240 - (i + 1)) y).map u8 := by
  rw [List.map_append, List.take_append_of_le_length (by simp), List.take_of_length_le (by simp), List.drop_append, List.drop_of_length_le (by simp), List.nil_append]
  simp only [List.map_replicate, List.length_replicate, List.drop_replicate]
  rw [show 240 - i - (i + 1 - i) = 240 - (i + 1) from by omega, List.map_append, List.map_replicate, List.map_replicate, List.replicate_succ', List.append_assoc]
theorem fm_ok {n : Nat} {p s l : Int} (h : 16 ≤ p ∧ p ≤ 1024) (h1 : 2 + p ≤ s) (h2 : 64 ≤ l) (h3 : s + l ≤ n) (h4 : n ≤ 4096) : (fmS p s l 2).Ok (n : Int) :=
  Sup.ok_mk (by show 0 ≤ (2 : Int) ∧ (2 : Int) ≤ 1099511627776; omega) (by show 0 ≤ (1 : Int) ∧ (1 : Int) ≤ 1099511627776; omega) (by show 16 ≤ p ∧ p ≤ 1024; omega) (by show 2 + p ≤ s ∧ s ≤ 1099511627776; omega) (by show 64 ≤ l ∧ l ≤ 1099511627776; omega) (by show 0 ≤ (0 : Int) ∧ (0 : Int) < l; omega) (by show 0 ≤ (1 : Int) ∧ (1 : Int) ≤ 1099511627776; omega) (by show s ≤ n - l ∧ l ≤ n; omega)
def g07 : StG := opG (fmS 16 18 64 2) (fun _ => noPg)
theorem sw_ok {x : Sup} {s l : Int} (n : Int) (hg : (0 ≤ x.gen ∧ x.gen ≤ 2000000000) ∧ 0 ≤ x.epoch ∧ x.epoch ≤ 2000000000) (hp : x.pages = 16) (h : 18 ≤ s ∧ 64 ≤ l ∧ s ≤ n - l ∧ l ≤ n) (hn : n ≤ 4096) : (swS x s l).Ok n := by
  have hf := swS_f x s l
  exact Sup.ok_mk (by omega) (by omega) (by omega) (by omega) (by omega) (by omega) (by omega) (by omega)
theorem stoA.gen0 {ps pd : Nat} {D : Dsk} {G : StG} {own : Txn} {h : Hp} (a : stoA ps pd D G own h) : 0 ≤ G.x.gen ∧ 0 ≤ G.x.epoch := by
  have := Sup.get (stoA.inv a).ok
  omega
abbrev mvB (pm ps pl : Nat) : Asn := blk pm [.pointer (some ⟨ps, 0, none⟩), .int .i64 400, .pointer (some ⟨pl, 0, none⟩)] 103
abbrev plB (pl : Nat) (e : Int × Int) : Asn := blk pl [.int .i64 e.1, .int .i64 e.2] 110
def moA (pm ps : Nat) (t : Option (Int × Int)) : Asn := fun h => match t with
  | none => blk pm [.pointer (some ⟨ps, 0, none⟩), .int .i64 400, .pointer none] 103 h
  | some e => ∃ pl, seps [mvB pm ps pl, plB pl e] h
section
variable {z w : World} {Γ : List Asn} {pm ps pd : Nat} {D : Dsk} {G : StG}
theorem Sep.mo {e : Int × Int} (H : Sep z (moA pm ps (some e) :: Γ) w) : ∃ pl, Sep z (mvB pm ps pl :: plB pl e :: Γ) w := by
  obtain ⟨pl, _, H⟩ := H.into (p := fun _ => True) (As := fun pl => [mvB pm ps pl, plB pl e]) (fun h a => by obtain ⟨pl, a⟩ := a; exact ⟨pl, trivial, a⟩)
  exact ⟨pl, H⟩
theorem Sep.toMo {e : Int × Int} {pl : Nat} (H : Sep z (mvB pm ps pl :: plB pl e :: Γ) w) : Sep z (moA pm ps (some e) :: Γ) w := H.made 2 (fun h a => ⟨pl, a⟩)
end
theorem new_m (ps : Nat) : Cn Tryz.prog 11 [.pointer (some ⟨ps, 0, none⟩), .int .i64 400] [] (fun v Γ => ∃ pm, v = .pointer (some ⟨pm, 0, none⟩) ∧ Γ = [moA pm ps none]) := rnew_c ps
theorem ask_m (pm ps pd : Nat) (t : Option (Int × Int)) (D : Dsk) (G : StG) (m : Nat) (hF : Bnd D G m) (hm : m ≤ 1000000000) (s l : Int) : Cn Tryz.prog 15 [.pointer (some ⟨pm, 0, none⟩), .int .i64 s, .int .i64 l] [moA pm ps t, stoA ps pd D G none] (fun v Γ => (∃ c : Int, c ≠ 0 ∧ v = .int .i64 c ∧ Γ = [moA pm ps t, stoA ps pd D G none]) ∨ ((swS G.x s l).Ok 400 ∧ v = .int .i64 0 ∧ Γ = [moA pm ps (some (s, l)), stoA ps pd D G none])) := by
  intro z R w H
  have h1 := hF.gen
  have h2 := hF.epoch
  cases t with
  | none =>
    refine Ret.mono (ask0_c pm ps pd D G (by omega) s l z R w H) ?_
    rintro v w' ⟨Γ', (⟨_, rfl, rfl⟩ | ⟨h, pl, rfl, rfl⟩), H'⟩
    · exact ⟨_, .inl ⟨1, by decide, rfl, rfl⟩, H'⟩
    · exact ⟨_, .inr ⟨h, rfl, rfl⟩, H'.toMo⟩
  | some e =>
    obtain ⟨pl, H⟩ := H.mo
    refine Ret.mono (Cn.at (ask1_c pm ps pl s l) H 1 [0] rfl rfl) ?_
    rintro v w' ⟨Γ', ⟨rfl, rfl⟩, H'⟩
    exact ⟨_, .inl ⟨17, by decide, rfl, rfl⟩, H'.toMo⟩
theorem busy_m (pm ps : Nat) (t : Option (Int × Int)) : Cn Tryz.prog 14 [.pointer (some ⟨pm, 0, none⟩)] [moA pm ps t] (fun v Γ => v = .bool t.isSome ∧ Γ = [moA pm ps t]) := by
  intro z R w H
  cases t with
  | none => exact busy0_c pm ps z R w H
  | some e =>
    obtain ⟨pl, H⟩ := H.mo
    refine Ret.mono (Cn.at (busy1_c pm ps pl) H 1 [0] rfl rfl) ?_
    rintro v w' ⟨Γ', ⟨rfl, rfl⟩, H'⟩
    exact ⟨_, ⟨rfl, rfl⟩, H'.toMo⟩
theorem step_b (pm ps pd : Nat) (t : Option (Int × Int)) (D : Dsk) (G : StG) (m : Nat) (hF : Bnd D G m) (hm : m ≤ 1000000000) : Cn Tryz.prog 16 [.pointer (some ⟨pm, 0, none⟩)] [moA pm ps t, stoA ps pd D G none] (fun v Γ => ∃ (b : Bool) (c : Int) (D2 : Dsk) (G2 : StG) (t2 : Option (Int × Int)), Bnd D2 G2 (m + 1) ∧ Mv D G D2 G2 ∧ ((G2.x.start = G.x.start ∧ G2.x.len = G.x.len) ∨ t = some (G2.x.start, G2.x.len)) ∧ (t2 = t ∨ t2 = none) ∧ v = .tuple #[.bool b, .int .i64 c] ∧ Γ = [moA pm ps t2, stoA ps pd D2 G2 none]) := by
  intro z R w H
  cases t with
  | none =>
    refine Ret.mono (Cn.at (step0_c pm ps) H 1 [0] rfl rfl) ?_
    rintro v w' ⟨Γ', ⟨rfl, rfl⟩, H'⟩
    exact ⟨_, ⟨_, _, D, G, none, hF.le (by omega), Mv.refl D G, .inl ⟨rfl, rfl⟩, .inl rfl, rfl, rfl⟩, H'⟩
  | some e =>
    obtain ⟨pl, H⟩ := H.mo
    refine Ret.mono (step1_c pm ps pd pl e.1 e.2 D G m hF hm z R w H) ?_
    rintro v w' ⟨Γ', (⟨_, c, D2, G2, hB, hM, hs, _, rfl, rfl⟩ | ⟨_, c, D2, _, hB, hM, _, rfl, rfl⟩ | ⟨_, D2, hB, hM, _, rfl, rfl⟩), H'⟩
    · exact ⟨_, ⟨_, _, D2, G2, some e, hB, hM, .inl hs, .inl rfl, rfl, rfl⟩, H'.toMo⟩
    · exact ⟨_, ⟨_, _, D2, G, some e, hB, hM, .inl ⟨rfl, rfl⟩, .inl rfl, rfl, rfl⟩, H'.toMo⟩
    · exact ⟨_, ⟨_, _, D2, _, none, hB, hM, .inr rfl, .inr rfl, rfl, rfl⟩, H'.pick 3 [0, 2] rfl⟩
theorem step_f (pm ps pd : Nat) (t : Option (Int × Int)) (D : Dsk) (G : StG) (m : Nat) (hF : Fine D G m) (hm : m ≤ 1000000000) (hok : ∀ s l, t = some (s, l) → (swS G.x s l).Ok (D.n : Int)) : Cn Tryz.prog 16 [.pointer (some ⟨pm, 0, none⟩)] [moA pm ps t, stoA ps pd D G none] (fun v Γ => (t = none ∧ v = .tuple #[.bool false, .int .i64 18] ∧ Γ = [moA pm ps t, stoA ps pd D G none]) ∨ (t.isSome = true ∧ ¬ G.home ∧ ∃ (D2 : Dsk) (G2 : StG), Fine D2 G2 (m + 1) ∧ Mv D G D2 G2 ∧ G2.home ∧ (G2.x.start = G.x.start ∧ G2.x.len = G.x.len) ∧ v = .tuple #[.bool false, .int .i64 0] ∧ Γ = [moA pm ps t, stoA ps pd D2 G2 none]) ∨ (t.isSome = true ∧ G.home ∧ ∃ (D2 : Dsk) (G2 : StG), Fine D2 G2 (m + 1) ∧ Mv D G D2 G2 ∧ t = some (G2.x.start, G2.x.len) ∧ v = .tuple #[.bool true, .int .i64 0] ∧ Γ = [moA pm ps none, stoA ps pd D2 G2 none])) := by
  intro z R w H
  cases t with
  | none =>
    refine Ret.mono (Cn.at (step0_c pm ps) H 1 [0] rfl rfl) ?_
    rintro v w' ⟨Γ', ⟨rfl, rfl⟩, H'⟩
    exact ⟨_, .inl ⟨rfl, rfl, rfl⟩, H'⟩
  | some e =>
    obtain ⟨pl, H⟩ := H.mo
    refine Ret.mono (step1_c pm ps pd pl e.1 e.2 D G m hF.bnd hm z R w H) ?_
    rintro v w' ⟨Γ', (⟨hh, c, D2, G2, hB, hM, hs, hfin, rfl, rfl⟩ | ⟨_, c, D2, _, hB, hM, hno, rfl, rfl⟩ | ⟨hh, D2, hB, hM, hcl, rfl, rfl⟩), H'⟩
    · obtain ⟨rfl, hc2, hh2⟩ := hfin ⟨hF.clean, hF.b⟩
      exact ⟨_, .inr (.inl ⟨rfl, hh, D2, G2, hB.fine hc2, hM, hh2, hs, rfl, rfl⟩), H'.toMo⟩
    · exact (hno hF.clean (hok _ _ rfl)).elim
    · exact ⟨_, .inr (.inr ⟨rfl, hh, D2, swG G e.1 e.2, hB.fine ⟨hcl hF.clean, rfl⟩, hM, rfl, rfl, rfl⟩), H'.pick 3 [0, 2] rfl⟩
theorem cut_s (ps pd : Nat) (D : Dsk) (G : StG) (m : Nat) (hF : Bnd D G m) (x : Int) : Cn Tryz.prog 24 [.pointer (some ⟨pd, 0, none⟩), .int .i64 x] [stoA ps pd D G none] (fun v Γ => ∃ (c : Int) (D2 : Dsk), Bnd D2 G m ∧ Mv D G D2 G ∧ v = .int .i64 c ∧ Γ = [stoA ps pd D2 G none]) := by
  intro z R w H
  obtain ⟨X, hX, H⟩ := H.sto
  refine Ret.mono (Cn.at (cut_c pd D x) H 6 [3, 0, 1, 2, 4, 5] rfl rfl) ?_
  rintro v w' ⟨Γ', (⟨_, rfl, rfl⟩ | ⟨_, rfl, rfl⟩), H'⟩
  · exact ⟨_, ⟨1, D, hF, Mv.refl D G, rfl, rfl⟩, (H'.pick 6 [1, 2, 3, 0, 4, 5] rfl).toSto (X := X) 6 hX rfl⟩
  · exact ⟨_, ⟨0, { D with cut := true, left := x }, ⟨hF.ver, hF.gen, hF.epoch, hF.q⟩, ⟨rfl, rfl, rfl, fun e => e⟩, rfl, rfl⟩, (H'.pick 6 [1, 2, 3, 0, 4, 5] rfl).toSto (X := X) 6 ⟨hX.inv.f rfl rfl rfl, hX.l, hX.ok, hX.nu, hX.own⟩ rfl⟩
theorem page7_c (fl : Int) : Cn Tryz.prog 20 [.int .i64 fl] [] (fun v Γ => ∃ b, v = .agg #[.int .i64 5, .slice (some ⟨b, 0, none⟩) 240 240] ∧ Γ = [blk b ((pgF 5 fl).body.map u8) 5]) := by
 intro z R w H'; have H : Sep z (R) w := H'
 clear H'; refine enter Tryz.func20 rfl 19 Tryz.ntmps20 rfl (k_seq (s_region (s_go rfl rfl rfl (n_alloc (P := Tryz.prog) H rfl (zs := [.int .i64 0, .slice none 0 0]) (by kernel_rfl)) ?_))); rintro _ w ⟨b1, rfl, H'⟩; have H := H'.l1; clear H'; refine s_end (k_seq (s_region (s_go rfl rfl rfl (n_make (k := 240) H rfl (by kernel_rfl) (Elt.mk (P := Tryz.prog) (e := 5) (z := u8 0) (sz := 1) (by_ := 1) (by kernel_rfl) rfl (by omega) (by omega)) rfl rfl rfl (by omega)) ?_))); rintro _ w ⟨b2, rfl, H'⟩; have H := H'.l2; clear H'; refine s_M 1 rfl rfl (s_end (k_seq (k_seq (s_region (s_M 1 rfl rfl (s_end (k_block ?_))))))); refine c_loop (σ := Nat) (fun i => [(4, .int .i64 (i : Int)), (0, .int .i64 fl), (2, .pointer (some ⟨b1, 0, none⟩)), (3, .slice (some ⟨b2, 0, none⟩) 240 240)])
   (fun i w => Sep z (blk b2 ((List.replicate i (byt fl) ++ List.replicate (240 - i) (0 : UInt8)).map u8) 5 :: blk b1 [.int .i64 0, .slice none 0 0] 65 :: R) w ∧ (i ≤ 240)) (fun i => 240 - i) 0
   (fun _ hF => (hF.co rfl (by go_num) (hF.all rfl))) ⟨(by simpa [u8] using H), by omega⟩ ?_
 clear H; rintro i w ⟨H', hI⟩; have H := H'.l2; clear H'; have hi := hI; clear hI
 refine k_seq (k_seq (s_region (s_M 2 rfl rfl (s_do rfl rfl rfl (d_len rfl (z := 1) (by kernel_rfl) rfl) (s_M 1 rfl rfl (s_end (k_dec rfl (fun h1 => ?_) (fun h1 => ?_))))))))
 ·refine k_skip (k_seq (k_block (s_region (s_M 3 rfl rfl (s_do rfl rfl rfl (d_to8 rfl (by kernel_rfl) rfl) (s_do rfl rfl rfl (d_index rfl (z := 1) (j := i) (r := i) (by kernel_rfl) rfl rfl rfl (by omega) (by omega)) (s_put rfl rfl (n_store 0 H rfl rfl rfl rfl (vs := [u8 (byt fl)]) rfl (by simp [u8, u32, Value.oneCell']) (by kernel_rfl) (by simp; omega) (out := ((List.replicate (i + 1) (byt fl) ++ List.replicate (240 - (i + 1)) (0 : UInt8)).map u8)) (fill_step i _ _ (by omega))) ?_))))))); rintro w H'; have H := H'.l2; clear H'; refine s_end (s_region (s_M 1 rfl rfl (s_do rfl rfl rfl (d_add64 rfl rfl rfl (r := (i : Int) + 1) (by omega) (by omega)) (s_M 1 rfl rfl (s_end ?_))))); intro _ hF; refine ⟨(i + 1), (hF.co rfl (by go_num) (hF.all rfl)), ⟨H, ?_⟩, ?_⟩
  ·omega
  ·omega
 ·obtain rfl : i = 240 := by omega
  refine k_exit (k_here (k_seq (s_region (s_M 1 rfl rfl (s_do rfl rfl rfl (d_build rfl rfl (out := [.int .i64 5, .slice (some ⟨b2, 0, none⟩) 240 240]) (by kernel_rfl)) (s_put rfl rfl (n_store 1 H rfl rfl rfl rfl (vs := [.int .i64 5, .slice (some ⟨b2, 0, none⟩) 240 240]) rfl (by simp [u8, u32, Value.oneCell']) (by kernel_rfl) (by simp) (out := [.int .i64 5, .slice (some ⟨b2, 0, none⟩) 240 240]) rfl) ?_)))))); rintro w H'; have H := H'.l2; clear H'; refine s_end (k_ret (doneL rfl [.agg #[.int .i64 5, .slice (some ⟨b2, 0, none⟩) 240 240]] ⟨⟨_, _, rfl, run_loadBlk (by kernel_rfl) (H.blk 1 rfl) (vs := [.int .i64 5, .slice (some ⟨b2, 0, none⟩) 240 240]) rfl⟩, trivial⟩ (v := .agg #[.int .i64 5, .slice (some ⟨b2, 0, none⟩) 240 240]) rfl ?_)); rw [show (List.replicate 240 (byt fl) ++ List.replicate (240 - 240) (0 : UInt8)).map u8 = (pgF 5 fl).body.map u8 from by simp [pgF]] at H; exact ⟨[blk b2 ((pgF 5 fl).body.map u8) 5], ⟨b2, rfl, rfl⟩, H.perm 2 [0] rfl rfl⟩
end Go.Proofs.YtbegkbjigbkljaaGreatDoor
namespace Go.Proofs.YtbegkbjigbkljaaGreatDoor
open Go.RowKit
theorem ask_i (pm ps pd : Nat) (D : Dsk) (G : StG) (m : Nat) (hF : Bnd D G m) (hm : m ≤ 1000000000) (s l : Int) (hok : (swS G.x s l).Ok 400) : Cn Tryz.prog 15 [.pointer (some ⟨pm, 0, none⟩), .int .i64 s, .int .i64 l] [moA pm ps none, stoA ps pd D G none] (fun v Γ => v = .int .i64 0 ∧ Γ = [moA pm ps (some (s, l)), stoA ps pd D G none]) := by
  intro z R w H
  have h1 := hF.gen
  have h2 := hF.epoch
  refine Ret.mono (ask0_c pm ps pd D G (by omega) s l z R w H) ?_
  rintro v w' ⟨Γ', (⟨h, rfl, rfl⟩ | ⟨h, pl, rfl, rfl⟩), H'⟩
  · exact absurd hok h
  · exact ⟨_, ⟨rfl, rfl⟩, H'.toMo⟩
set_option maxHeartbeats 2000000 in
theorem formatted_c  : Cn Tryz.prog 6 [] [] (fun v Γ => ∃ (pd ps : Nat) (D0 : Dsk), Fine D0 g07 3 ∧ D0.n = 400 ∧ v = .tuple #[.pointer (some ⟨pd, 0, none⟩), .pointer (some ⟨ps, 0, none⟩)] ∧ Γ = [stoA ps pd D0 g07 none]) := by
 intro z R w H'; have H : Sep z (R) w := H'
 clear H'; refine enter Tryz.func6 rfl 30 Tryz.ntmps6 rfl (k_seq (s_region (s_M 2 rfl rfl (s_end (k_seq (s_region (s_C rfl rfl rfl rfl rfl (fun w => Tryz.call27 _ w) (dnew_c 400) H rfl ?_))))))); rintro _ w _ (⟨hn_, rfl, rfl⟩ | ⟨_, pd, rfl, rfl⟩) H'
 ·exact absurd (by omega) hn_
 ·have H := H'.l1; clear H'; refine s_M 5 rfl rfl (s_end (k_seq (k_seq (s_region (s_M 2 rfl rfl (k_updA 11 (u := .bool (decide ((0 : Int) ≠ 0))) (v := .bool false) rfl (congrArg Value.bool (by decide)) (s_M 2 rfl rfl (s_do rfl rfl rfl (d_eql_pn rfl (by kernel_rfl) rfl rfl) (s_M 3 rfl rfl (s_C rfl rfl rfl rfl rfl (fun w => Tryz.call28 _ w) (format_c _ 400 _ _ _ (fm_ok (by omega) (by omega) (by omega) (by omega) (by omega))) H rfl ?_)))))))))); rintro _ w _ ⟨rfl, rfl⟩ H'; have H := H'.l1; clear H'; refine s_M 1 rfl rfl (k_updA 19 (u := .bool (decide ((0 : Int) ≠ 0))) (v := .bool false) rfl (congrArg Value.bool (by decide)) (s_M 1 rfl rfl (s_end (k_false rfl (k_skip (k_seq (s_region (s_M 1 rfl rfl (s_C rfl rfl rfl rfl rfl (fun w => Tryz.call26 _ w) (open_s _ _ _ _ _ _ (fm_open (fm_ok (n := 400) (p := 16) (s := 18) (l := 64) (by omega) (by omega) (by omega) (by omega) (by omega))) (fm_clean _ _ _ _) (show (2 : Int) ≤ (2 : Nat) ∧ (1 : Int) ≤ (2 : Nat) by omega) (by omega)) H rfl ?_))))))))); rintro _ w _ ⟨ps, D0, got0, hgd0, fi0, hn0, rfl, rfl⟩ H'; have H := H'.l1; clear H'; subst hgd0; have H' : Sep z (stoA ps pd D0 (opG (fmS 16 18 64 2) (fun _ => noPg)) none :: R) w := H
  clear H; have H := H'.l1; clear H'; refine s_M 5 rfl rfl (s_end (k_seq (k_seq (s_region (s_M 2 rfl rfl (k_updA 27 (u := .bool (decide ((0 : Int) ≠ 0))) (v := .bool false) rfl (congrArg Value.bool (by decide)) (s_end (k_false rfl (k_skip (k_seq (s_region (s_M 4 rfl rfl (s_end ?_))))))))))))); refine k_ret (doneL rfl [.pointer (some ⟨pd, 0, none⟩), .pointer (some ⟨ps, 0, none⟩)] ⟨rfl, ⟨rfl, trivial⟩⟩ (v := .tuple #[.pointer (some ⟨pd, 0, none⟩), .pointer (some ⟨ps, 0, none⟩)]) rfl ?_); exact ⟨[stoA ps pd D0 (opG (fmS 16 18 64 2) (fun _ => noPg)) none], ⟨_, _, D0, fi0, hn0, rfl, rfl⟩, H⟩
set_option maxHeartbeats 2000000 in
theorem known_c  : Cn Tryz.prog 8 [] [] (fun v Γ => v = .bool true ∧ Γ = []) := by
 intro z R w H'; have H : Sep z (R) w := H'
 clear H'; refine enter Tryz.func8 rfl 92 Tryz.ntmps8 rfl (k_seq (s_region (s_M 1 rfl rfl (s_end (k_seq (s_region (s_C rfl rfl rfl rfl rfl (fun w => Tryz.call6 _ w) (formatted_c ) H rfl ?_))))))); rintro _ w _ ⟨pd, ps, D0, fi0, hn0, rfl, rfl⟩ H'; have H := H'.l1; clear H'; refine s_M 5 rfl rfl (s_end (k_seq (k_seq (s_region (s_M 1 rfl rfl (s_do rfl rfl rfl (d_eql_pn rfl (by kernel_rfl) rfl rfl) (s_M 1 rfl rfl (s_C rfl rfl rfl rfl rfl (fun w => Tryz.call11 _ w) (rnew0_c ) H rfl ?_)))))))); rintro _ w _ ⟨rfl, rfl⟩ H'; have H := H'.l1; clear H'; refine s_do rfl rfl rfl (d_neq_nn rfl (by kernel_rfl) rfl rfl) (s_M 1 rfl rfl (s_end (k_false rfl (k_skip (k_seq (s_region (s_M 1 rfl rfl (s_C rfl rfl rfl rfl rfl (fun w => Tryz.call11 _ w) (new_m _) H rfl ?_)))))))); rintro _ w _ ⟨pm, rfl, rfl⟩ H'; have H := H'.l2; clear H'; refine s_M 1 rfl rfl (s_end (k_seq (k_seq (s_region (s_M 1 rfl rfl (s_do rfl rfl rfl (d_eql_pn rfl (by kernel_rfl) rfl rfl) (s_end (k_false rfl (k_skip (k_seq (s_region (s_M 1 rfl rfl (s_C rfl rfl rfl rfl rfl (fun w => Tryz.call18 _ w) (begin_s _ _ _ _) H.f1 rfl ?_))))))))))))); rintro _ w _ ⟨rfl, rfl⟩ H'; have H := H'.l2; clear H'; refine s_M 1 rfl rfl (s_end (k_seq (s_region (s_M 1 rfl rfl (s_C rfl rfl rfl rfl rfl (fun w => Tryz.call20 _ w) (page7_c _) H rfl ?_))))); rintro _ w _ ⟨pb1, rfl, rfl⟩ H'; have H := H'.l3; clear H'; refine s_C rfl rfl rfl rfl rfl (fun w => Tryz.call19 _ w) (write_s ps pd D0 g07 _ _ 3 (show ((3 : Nat) : Int) < 16 by omega) (pgF 5 7) (pgF_ok 7 (by omega)) _ _ (fun h q => blk_rd0 q (by rw [List.length_map]; exact pgF_len _ _))) H.f1 rfl ?_
 rintro _ w _ (⟨hbad, rfl, rfl⟩ | ⟨_, rfl, rfl⟩) H'
 ·(exfalso; have hbk := hbad.2; omega)
 ·have H := H'.l3; clear H'; refine s_M 1 rfl rfl (s_end (k_seq (s_region (s_M 1 rfl rfl (s_C rfl rfl rfl rfl rfl (fun w => Tryz.call21 _ w) (commit_s _ _ _ _ _ _ 3 fi0 (by omega)) H rfl ?_))))); rintro _ w _ ⟨D1, G1, fi1, hn1, ⟨hM1, hns1⟩, hx1, rfl, rfl⟩ H'; have H := H'.l3; clear H'; refine s_M 1 rfl rfl (s_end (k_seq (s_region ?_))); have hp1 : G1.x.pages = 16 := by rcases hx1 with e | e <;> rw [e] <;> rfl
  have hz1 := H.says 0 rfl (fun h q => stoA.gen0 q)
  have hg1 := fi1.gen
  have he1 := fi1.epoch
  have hnh1 : ¬ G1.home := fun h => by have := hns1 3 (by simp [pgSet]); rw [h] at this; cases this
  have hA1 : (swS G1.x 100 70).Ok (D1.n : Int) := by rw [hn1, hn0]; exact sw_ok _ (by omega) hp1 (by omega) (by omega)
  refine s_M 1 rfl rfl (s_C rfl rfl rfl rfl rfl (fun w => Tryz.call15 _ w) (ask_i _ _ _ _ _ _ fi1.bnd (by omega) 100 70 (by have := hA1; rw [hn1, hn0] at this; exact this)) H.f2 rfl ?_); rintro _ w _ ⟨rfl, rfl⟩ H'; have H := H'.l3; clear H'; refine s_M 1 rfl rfl (s_end (k_seq (s_region (s_M 1 rfl rfl (s_C rfl rfl rfl rfl rfl (fun w => Tryz.call16 _ w) (step_f _ _ _ (some (100, 70)) D1 G1 5 fi1 (by omega) (fun s l e => by cases e; exact hA1)) H rfl ?_))))); rintro _ w _ (⟨ht2, rfl, rfl⟩ | ⟨ht2, hh2, D2, G2, fi2, hMv2, hg2, hsl2, rfl, rfl⟩ | ⟨ht2, hh2, D2, G2, fi2, hMv2, hsl2, rfl, rfl⟩) H'
  ·cases ht2
  ·have H := H'.l3; clear H'; refine s_M 5 rfl rfl (s_end (k_seq (s_region ?_))); have hg2_ := hg2
   have hz2 := H.says 1 rfl (fun h q => stoA.gen0 q)
   have hg2 := fi2.gen
   have he2 := fi2.epoch
   have hA2 : (swS G2.x 100 70).Ok (D2.n : Int) := by rw [hMv2.n, hn1, hn0]; exact sw_ok _ (by omega) (hMv2.pages.trans hp1) (by omega) (by omega)
   refine s_M 1 rfl rfl (s_C rfl rfl rfl rfl rfl (fun w => Tryz.call16 _ w) (step_f _ _ _ (some (100, 70)) D2 G2 6 fi2 (by omega) (fun s l e => by cases e; exact hA2)) H rfl ?_); rintro _ w _ (⟨ht3, rfl, rfl⟩ | ⟨ht3, hh3, D3, G3, fi3, hMv3, hg3, hsl3, rfl, rfl⟩ | ⟨ht3, hh3, D3, G3, fi3, hMv3, hsl3, rfl, rfl⟩) H'
   ·cases ht3
   ·exact absurd hg2_ hh3
   ·have H := H'.l3; clear H'; refine s_M 5 rfl rfl (s_end (k_seq (s_region (s_M 1 rfl rfl (s_C rfl rfl rfl rfl rfl (fun w => Tryz.call13 _ w) (super_s ps pd D3 G3 none) H.f1 rfl ?_))))); rintro _ w _ ⟨rfl, rfl⟩ H'; have H := H'.l3; clear H'; simp only [Option.some.injEq, Prod.mk.injEq] at hsl3
    have hs3 : G3.x.start = 100 := by omega
    have hl3 : G3.x.len = 70 := by omega
    refine s_go rfl rfl rfl (n_alloc (P := Tryz.prog) H rfl (zs := [.int .i64 0, .int .i64 0, .int .i64 0, .int .i64 0, .int .i64 0, .int .i64 0, .int .i64 0]) (by kernel_rfl)) ?_; rintro _ w ⟨b2, rfl, H'⟩; have H := H'.l4; clear H'; refine s_put rfl rfl (n_store 0 H rfl rfl rfl rfl (vs := [.int .i64 G3.x.gen, .int .i64 G3.x.epoch, .int .i64 G3.x.pages, .int .i64 G3.x.start, .int .i64 G3.x.len, .int .i64 G3.x.head, .int .i64 G3.x.seq]) rfl (by simp [u8, u32, Value.oneCell']) (by kernel_rfl) (by simp) (out := [.int .i64 G3.x.gen, .int .i64 G3.x.epoch, .int .i64 G3.x.pages, .int .i64 G3.x.start, .int .i64 G3.x.len, .int .i64 G3.x.head, .int .i64 G3.x.seq]) rfl) ?_; rintro w H'; have H := H'.l4; clear H'; refine s_end (k_seq (s_region (s_M 2 rfl rfl (k_updA 49 (u := .bool (decide ((0 : Int) = 0))) (v := .bool true) rfl (congrArg Value.bool (by decide)) (s_M 3 rfl rfl (k_updA 52 (u := .bool (decide ((0 : Int) = 0))) (v := .bool true) rfl (congrArg Value.bool (by decide)) (s_M 4 rfl rfl (k_updA 56 (u := .bool (decide ((0 : Int) = 0))) (v := .bool true) rfl (congrArg Value.bool (by decide)) (s_M 4 rfl rfl (k_updA 60 (u := .bool (decide ((0 : Int) = 0))) (v := .bool true) rfl (congrArg Value.bool (by decide)) (s_M 8 rfl rfl (k_updA 68 (u := .bool (decide ((0 : Int) = 0))) (v := .bool true) rfl (congrArg Value.bool (by decide)) (s_M 7 rfl rfl ?_))))))))))))); refine k_updA 75 (u := .bool (decide ((0 : Int) = 0))) (v := .bool true) rfl (congrArg Value.bool (by decide)) (s_L 5 [3, 0] (mm1 (H.blk 0 rfl) mm0) rfl (by kernel_rfl) rfl (k_updA 80 (u := .bool (decide ((G3.x.start : Int) = 100))) (v := .bool true) rfl (congrArg Value.bool (decide_eq_true hs3)) (s_L 5 [4, 0] (mm1 (H.blk 0 rfl) mm0) rfl (by kernel_rfl) rfl (k_updA 85 (u := .bool (decide ((G3.x.len : Int) = 70))) (v := .bool true) rfl (congrArg Value.bool (decide_eq_true hl3)) (s_M 3 rfl rfl (s_C rfl rfl rfl rfl rfl (fun w => Tryz.call14 _ w) (busy_m _ _ _) H.f2 rfl ?_))))))
    rintro _ w _ ⟨rfl, rfl⟩ H'; have H := H'.l4; clear H'; refine s_M 3 rfl rfl (s_end (k_ret (doneL rfl [.bool true] ⟨rfl, trivial⟩ (v := .bool true) rfl ?_))); exact ⟨[], ⟨rfl, rfl⟩, H.perm 4 [] rfl rfl⟩
  ·exact absurd hh2 hnh1
end Go.Proofs.YtbegkbjigbkljaaGreatDoor
