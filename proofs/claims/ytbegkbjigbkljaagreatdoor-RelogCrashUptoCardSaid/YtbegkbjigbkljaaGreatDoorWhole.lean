/-
  A crash in the middle of a move leaves the log where it was or where it was asked to, and all that was synced. No condition.
-/
import Derived.Test.YtbegkbjigbkljaaGreatDoorPart4
import Derived.Test.YtbegkbjigbkljaaGreatDoorCards
import Derived.Test.YtbegkbjigbkljaaGreatDoorTie
import Derived.WalkKit
import Derived.WalkSpells
import Derived.Deep.Quiet
import Derived.KernelRfl
import Derived.IntWalk
import Derived.Maps.AppendAt
import Derived.Laws.AppendOwnNone
import Derived.Laws.CopyRow
import Derived.StillTail
import Derived.Deep.RegionHeld
import Derived.Laws.IdiomStrings
import Derived.Laws.BytesArg
import Derived.Laws.OwnMore
import Derived.Lib.Strings
import Derived.ArgAppend
import Derived.RangeFuncLeaves
import Derived.RangeFuncRecord
import Derived.RangeFuncCalls
import Derived.RangeFuncSeq
import Derived.OrdersIn
import Derived.TacticsIn
import Derived.Laws.IdiomRangeMap
import Derived.Defers
import Derived.Laws.LoneSync
import Derived.LoopN
import Derived.Test.YtbegkbjigbkljaaGreatDoorRows
import Derived.Test.YtbegkbjigbkljaaGreatDoorProg
import Derived.Shelf.Sort.Plain
import Derived.Shelf.Slices.In.SortNone
import Derived.DataReads
import Derived.ProofKit
import Derived.OpenShut
import Derived.Lib.SmallJoins
import Derived.Deep.DeepHandedRow
import Derived.Lib.LaidTab
set_option maxRecDepth 100000
set_option linter.unusedSimpArgs false
set_option linter.unusedVariables false
namespace Go.Proofs.YtbegkbjigbkljaaGreatDoor
open Go.RowKit
structure RoM where
  k0 : Int
  k1 : Int
  k2 : Int
  k3 : Int
  k4 : Int
  k5 : Bool
abbrev i64In (x : Int) : Prop := -9223372036854775808 ≤ x ∧ x ≤ 9223372036854775807
def RoM.In (d : RoM) : Prop := i64In d.k0 ∧ i64In d.k3
abbrev RoE := RoM × Value
def RoE.cells (e : RoE) : List Value := [.int .i64 e.1.k0, .int .i64 e.1.k1, .int .i64 e.1.k2, .int .i64 e.1.k3, .int .i64 e.1.k4, .bool e.1.k5, e.2]
theorem pgF_get (f : Int) (rest : List Value) {o : Nat} (ho : o < 240) : ((pgF 5 f).body.map u8 ++ rest)[o]? = some (u8 (byt f)) := by
  rw [List.getElem?_append_left (by simp [pgF]; omega)]
  show ((List.replicate 240 (byt f)).map u8)[o]? = _
  rw [List.map_replicate, List.getElem?_replicate, if_pos ho]
theorem read_p (ps pd : Nat) (D : Dsk) (G : StG) (n : Nat) (hn : (n : Int) < G.x.pages) (hf1 : D.f1 = 0) (c : Prop) (f : Int) (hM : (c ∧ G.M n = noPg) ∨ (¬ c ∧ G.M n = pgF 5 f)) :
    Cn Tryz.prog 22 [.pointer (some ⟨ps, 0, none⟩), .int .i64 (n : Int)] [stoA ps pd D G none] (fun v Γ => (c ∧ v = .tuple #[.agg #[.int .i64 0, .slice none 0 0], .int .i64 0] ∧ Γ = [stoA ps pd D G none]) ∨ (¬ c ∧ ∃ (g cap : Nat) (rest : List Value), 240 ≤ cap ∧ v = .tuple #[.agg #[.int .i64 5, .slice (some ⟨g, 0, none⟩) 240 cap], .int .i64 0] ∧ Γ = [blk g ((pgF 5 f).body.map u8 ++ rest) 5, stoA ps pd D G none])) := by
  intro z R w H
  refine Ret.mono (read_s ps pd D G none n hn hf1 (G.M n) rfl z R w H) ?_
  rintro v w' ⟨Γ', (⟨hno, rfl, rfl⟩ | ⟨hyes, v1, rfl, rfl⟩), H'⟩
  · rcases hM with ⟨e, _⟩ | ⟨_, hM⟩
    · exact ⟨_, .inl ⟨e, rfl, rfl⟩, H'⟩
    · rw [hM] at hno; exact absurd (congrArg Pg.kind hno) (show ¬ (5 : Int) = 0 by decide)
  · rcases hM with ⟨_, hM⟩ | ⟨e, hM⟩
    · rw [hM] at hyes; exact absurd hyes.1.1 (show ¬ (1 : Int) ≤ 0 by decide)
    · rw [hM] at H' ⊢
      obtain ⟨g, cap, rest, rfl, h1, h2, h3, H2⟩ := H'.ungrow 0 rfl (by omega)
      exact ⟨_, .inr ⟨e, g, cap, rest, by omega, rfl, rfl⟩, H2⟩
end Go.Proofs.YtbegkbjigbkljaaGreatDoor
namespace Go.Proofs.YtbegkbjigbkljaaGreatDoor
open Go.ChangeShapes Go.WideShapes Go.ChangeAt Go.RowKit Go.Joins
theorem own : ownKnob Tryz.prog.godebug = none := by kernel_rfl
theorem laidOut : laidOutB Tryz.prog = true := by kernel_rfl
theorem int_cells : Tryz.prog.cellsOf 3 = 1 := by kernel_rfl
theorem cel_base {W : World} {b o : Nat} {v : Value} (hc : Cel b o v W) : ∀ h, base W h → celH h b o v := fun h hb => by
  unfold Cel World.cell? at hc
  cases hh : W.heap[b]? with
  | none => rw [hh] at hc; simp at hc
  | some o' =>
    rw [hh] at hc
    cases o' with
    | cells cs ty fr =>
      simp at hc
      have hlt : b < W.heap.size := by
        rcases Nat.lt_or_ge b W.heap.size with q | q
        · exact q
        · rw [Array.getElem?_eq_none q] at hh; cases hh
      exact ⟨cs, ty, fr, (hb b hlt).trans hh, hc⟩
    | _ => simp at hc
theorem rd_base {sz : Nat} {v : Value} {n : Nat} {xs : List Value} {W : World} (r : Rd sz v n xs W) : ∀ h, base W h → rdH sz v n xs h := fun h hb => by
  obtain ⟨ao, c, e, h1, h2, h3, h4⟩ := r
  exact ⟨ao, c, e, h1, h2, h3, fun j u hj => by
    obtain ⟨b, p, e', hc⟩ := h4 j u hj
    exact ⟨b, p, e', cel_base hc h hb⟩⟩
theorem open_rdB {H : Type} {enc : TypeId × Value → H} {W : World} {fuel : Nat} {v : Value} {d : DataW H} {p : List MemPlace} (h : DataW.trod enc Tryz.prog W 0 (fun _ => true) true fuel 45 [v] = some (d, p)) : ∃ xs : List Int, Rd 1 v xs.length (xs.map (Value.int .i64)) W ∧ xs.length ≤ Rows.uptoBulk d := by
  have hall : ∀ (l : List Int), l.length ≤ Rows.uptoBulkAll (lits (H := H) .i64 l) := fun l => by
    induction l with
    | nil => simp
    | cons x l ih => simp only [lits, List.map_cons, Rows.uptoBulkAll, Rows.uptoBulk, List.length_cons] at ih ⊢; omega
  rcases open_ints Tryz.underlying45 Tryz.underlying3 int_cells h with ⟨hcs, hx⟩ | ⟨a, len, cap, zs, hcs, _, hl, hm, hz, hx, hcell, _⟩
  · simp only [List.cons.injEq, and_true] at hcs; subst hcs; exact ⟨[], by simpa using Rd.nil 1 W, by simp⟩
  · simp only [List.cons.injEq, and_true] at hcs; subst hcs
    simp only [if_true] at hz
    have hd : d = .slice (lits .i64 (zs.take len)) (lits .i64 (zs.drop len)) := by have := congrArg Prod.fst hx; simpa using this
    refine ⟨zs.take len, ⟨some a, cap, by simp [hz, Nat.min_eq_left hl], by simp [hz, Nat.min_eq_left hl, hl], (by unfold maxLen at hm; omega), by simp, fun j u hj => ?_⟩, ?_⟩
    · rw [List.getElem?_map] at hj
      obtain ⟨y, hy, rfl⟩ := Option.map_eq_some_iff.1 hj
      have hjl : j < len := by
        have := (List.getElem?_eq_some_iff.1 hy).1
        simp at this; omega
      have hy' : zs[j]? = some y := by rw [List.getElem?_take] at hy; simpa [hjl] using hy
      have hc := hcell j (by omega)
      rw [show zs.getD j 0 = y from by simp [List.getD, hy']] at hc
      obtain ⟨b, off, spot⟩ := a
      have hspot : spot = none := by
        have h0 := hcell 0 (by omega)
        simpa [Addr.add] using World.cell?_spot h0
      subst hspot
      exact ⟨b, off, rfl, by unfold Cel; rw [← Go.WideShapes.add_plain]; exact hc⟩
    · rw [hd]; have := hall (zs.take len); simp only [Rows.uptoBulk]; omega
theorem Cn.run {P : Program} {f : FuncId} {args : List Value} {W : World} {u : Value} (h : Cn P f args [base W] (fun v Γ => v = u ∧ Γ = [base W])) : Calls P f args.toArray W (Ret fun v W' => v = u ∧ Ext No W W') := by
  refine Ret.mono (h W [] W (by simpa using Sep.start W)) ?_
  rintro v W' ⟨Γ, ⟨rfl, rfl⟩, H⟩
  exact ⟨rfl, Sep.done 0 H rfl⟩
def flatW : DataW Unit → List Value
  | .lit (.int k n) => [.int k n]
  | .agg parts => flatWs parts
  | _ => []
where flatWs : List (DataW Unit) → List Value
  | [] => []
  | d :: ds => flatW d ++ flatWs ds
def lay1 : Obj → Obj
  | .cells c t frozen => .cells (if c.size = 32 then (flatW Rows.laid_unicode_utf8_acceptRanges).toArray else (flatW Rows.laid_unicode_utf8_first).toArray) t frozen
  | o => o
noncomputable def laidWorld (os : Os) : World :=
  { World.holding Tryz.prog os ⟨#[], #[], []⟩ with heap := ((World.holding Tryz.prog os ⟨#[], #[], []⟩).heap.modify 0 lay1).modify 1 lay1 }
section
variable {H : Type} {enc : TypeId × Value → H} {P : Program} {w : World} {base : Nat} {spare : Nat → Bool} {held : Bool}
end
section
variable {H : Type} {enc : TypeId × Value → H} {P : Program} {w : World} {base : Nat} {spare : Nat → Bool} {held : Bool}
theorem trod5 {t0 t1 t2 t3 t4 : TypeId} {args : Array Value} {ds : List (DataW H)} {ps : List MemPlace} (h : DataW.TrodAll enc P w base spare held [t0, t1, t2, t3, t4] args.toList ds ps) :
    ∃ v0 v1 v2 v3 v4 d0 d1 d2 d3 d4 p0 p1 p2 p3 p4, args = #[v0, v1, v2, v3, v4] ∧ ds = [d0, d1, d2, d3, d4] ∧ ps = p0 ++ (p1 ++ (p2 ++ (p3 ++ p4))) ∧ DataW.Trod enc P w base spare held t0 v0 d0 p0 ∧ DataW.Trod enc P w base spare held t1 v1 d1 p1 ∧ DataW.Trod enc P w base spare held t2 v2 d2 p2 ∧ DataW.Trod enc P w base spare held t3 v3 d3 p3 ∧ DataW.Trod enc P w base spare held t4 v4 d4 p4 := by
  obtain ⟨v0, vs0, d0, ds0, p0, q0, hargs, rfl, rfl, hd0, hr0⟩ := trodAll_cons h
  obtain ⟨v1, vs1, d1, ds1, p1, q1, rfl, rfl, rfl, hd1, hr1⟩ := trodAll_cons hr0
  obtain ⟨v2, vs2, d2, ds2, p2, q2, rfl, rfl, rfl, hd2, hr2⟩ := trodAll_cons hr1
  obtain ⟨v3, vs3, d3, ds3, p3, q3, rfl, rfl, rfl, hd3, hr3⟩ := trodAll_cons hr2
  obtain ⟨v4, vs4, d4, ds4, p4, q4, rfl, rfl, rfl, hd4, hr4⟩ := trodAll_cons hr3
  obtain ⟨rfl, rfl, rfl⟩ := trodAll_nil hr4
  exact ⟨v0, v1, v2, v3, v4, d0, d1, d2, d3, d4, p0, p1, p2, p3, p4, by cases args; simp_all, rfl, by simp, hd0, hd1, hd2, hd3, hd4⟩
theorem trodmk5 {t0 t1 t2 t3 t4 : TypeId} {v0 v1 v2 v3 v4 : Value} {d0 d1 d2 d3 d4 : DataW H} {p0 p1 p2 p3 p4 : List MemPlace} (h0 : DataW.Trod enc P w base spare held t0 v0 d0 p0) (h1 : DataW.Trod enc P w base spare held t1 v1 d1 p1) (h2 : DataW.Trod enc P w base spare held t2 v2 d2 p2) (h3 : DataW.Trod enc P w base spare held t3 v3 d3 p3) (h4 : DataW.Trod enc P w base spare held t4 v4 d4 p4) : DataW.TrodAll enc P w base spare held [t0, t1, t2, t3, t4] [v0, v1, v2, v3, v4] [d0, d1, d2, d3, d4] (p0 ++ (p1 ++ (p2 ++ (p3 ++ p4)))) :=
  ⟨p0, _, h0, ⟨p1, _, h1, ⟨p2, _, h2, ⟨p3, _, h3, (trodAll_mk1 h4), rfl⟩, rfl⟩, rfl⟩, rfl⟩
end
end Go.Proofs.YtbegkbjigbkljaaGreatDoor
namespace Go.Proofs.YtbegkbjigbkljaaGreatDoor
open Go.RowKit
def laL (la : Nat → Bool) : List Value := (List.range 16).map fun i => Value.bool (la i)
theorem laL_len (la : Nat → Bool) : (laL la).length = 16 := by simp [laL]
theorem laL_get (la : Nat → Bool) {n : Nat} (h : n < 16) : (laL la)[n]? = some (.bool (la n)) := by simp [laL, h]
theorem laL_set (la : Nat → Bool) (x : Bool) {n : Nat} (h : n < 16) : (laL la).take n ++ [Value.bool x] ++ (laL la).drop (n + 1) = laL (upf la n x) := by
  have e : (laL la).take n ++ [Value.bool x] ++ (laL la).drop (n + 1) = (laL la).set n (.bool x) := by
    rw [List.set_eq_take_append_cons_drop, if_pos (by rw [laL_len]; exact h), List.append_assoc]; rfl
  rw [e]
  apply List.ext_getElem?
  intro i
  rcases Nat.lt_or_ge i 16 with hi | hi
  · rw [laL_get _ hi, List.getElem?_set]
    by_cases q : n = i
    · subst q; rw [if_pos rfl, if_pos (by rw [laL_len]; exact h), upf_same]
    · rw [if_neg q, laL_get _ hi, upf_other _ _ (fun e => q e.symm)]
  · rw [List.getElem?_eq_none (by rw [List.length_set, laL_len]; omega), List.getElem?_eq_none (by rw [laL_len]; omega)]
def laP (la : Nat → Bool) (M : Nat → Pg) : Prop := ∀ n, n < 16 → (la n = false ∧ M n = noPg) ∨ (¬ la n = false ∧ M n = pgF 5 ((n : Int) + 1))
theorem laP_set {la : Nat → Bool} {M : Nat → Pg} (h : laP la M) (n k : Nat) : laP (upf la n true) (curPg M (some (pgSet noPgs n (pgF 5 ((n : Int) + 1)), k))) := by
  intro i hi
  by_cases e : i = n
  · subst e
    refine .inr ⟨by rw [upf_same]; decide, ?_⟩
    show (pgSet noPgs i _ i).getD _ = _
    simp [pgSet]
  · have hm : curPg M (some (pgSet noPgs n (pgF 5 ((n : Int) + 1)), k)) i = M i := by
      show (pgSet noPgs n _ i).getD _ = _
      simp [pgSet, e, noPgs]
    rw [upf_other _ _ e, hm]
    exact h i hi
theorem step_w (pm ps pd : Nat) (t : Option (Int × Int)) (s l : Int) (hW : ∀ a b, t = some (a, b) → a = s ∧ b = l) (D : Dsk) (G : StG) (m : Nat) (hF : Bnd D G m) (hm : m ≤ 1000000000) : Cn Tryz.prog 16 [.pointer (some ⟨pm, 0, none⟩)] [moA pm ps t, stoA ps pd D G none] (fun v Γ => ∃ (b : Bool) (c : Int) (D2 : Dsk) (G2 : StG) (t2 : Option (Int × Int)), Bnd D2 G2 (m + 1) ∧ Mv D G D2 G2 ∧ ((G2.x.start = G.x.start ∧ G2.x.len = G.x.len) ∨ (G2.x.start = s ∧ G2.x.len = l)) ∧ (∀ a b, t2 = some (a, b) → a = s ∧ b = l) ∧ v = .tuple #[.bool b, .int .i64 c] ∧ Γ = [moA pm ps t2, stoA ps pd D2 G2 none]) := by
  refine Cn.mono (step_b pm ps pd t D G m hF hm) ?_
  rintro v Γ ⟨b, c, D2, G2, t2, hB, hM, hs, ht, rfl, rfl⟩
  refine ⟨b, c, D2, G2, t2, hB, hM, ?_, ?_, rfl, rfl⟩
  · rcases hs with hs | hs
    · exact .inl hs
    · exact .inr (hW _ _ hs)
  · rcases ht with rfl | rfl
    · exact hW
    · intro a b e; cases e
theorem step0_m (pm ps : Nat) : Cn Tryz.prog 16 [.pointer (some ⟨pm, 0, none⟩)] [moA pm ps none] (fun v Γ => v = .tuple #[.bool false, .int .i64 18] ∧ Γ = [moA pm ps none]) := step0_c pm ps
set_option maxHeartbeats 8000000 in
theorem relogCrash_c (v pkv : Value) (s l cut : Int) (qs pk : List Int) (hq : qs.length ≤ 1048576) (A : Asn) (hA : ∀ h, A h → rdH 1 v qs.length (qs.map (Value.int .i64)) h ∧ rdH 1 pkv pk.length (pk.map (Value.int .i64)) h) : Cn Tryz.prog 5 [v, .int .i64 s, .int .i64 l, .int .i64 cut, pkv] [A] (fun v Γ => v = .bool true ∧ Γ = [A]) := by
 intro z R w H'; have H : Sep z (A :: R) w := H'
 clear H'; obtain ⟨ao, oc, rfl⟩ := H.says 0 rfl (fun h q => (hA h q).1.slc); refine enter Tryz.func5 rfl 191 Tryz.ntmps5 rfl (k_seq (s_region (s_M 1 rfl rfl (s_end (k_seq (s_region (s_C rfl rfl rfl rfl rfl (fun w => Tryz.call6 _ w) (formatted_c ) H rfl ?_))))))); rintro _ w _ ⟨pd, ps, D0, fi0, hn0, rfl, rfl⟩ H'; have H := H'.l2; clear H'; refine s_M 5 rfl rfl (s_end (k_seq (k_seq (s_region (s_M 1 rfl rfl (s_do rfl rfl rfl (d_eql_pn rfl (by kernel_rfl) rfl rfl) (s_M 1 rfl rfl (s_C rfl rfl rfl rfl rfl (fun w => Tryz.call8 _ w) (known_c ) H rfl ?_)))))))); rintro _ w _ ⟨rfl, rfl⟩ H'; have H := H'.l2; clear H'; refine s_M 2 rfl rfl (s_end (k_false rfl (k_skip (k_seq (s_region (s_go rfl rfl rfl (n_alloc (P := Tryz.prog) H rfl (zs := [.bool false, .bool false, .bool false, .bool false, .bool false, .bool false, .bool false, .bool false, .bool false, .bool false, .bool false, .bool false, .bool false, .bool false, .bool false, .bool false]) (by kernel_rfl)) ?_)))))); rintro _ w ⟨b1, rfl, H'⟩; have H := H'.l3; clear H'; refine s_end (k_seq (k_seq (s_region (s_M 1 rfl rfl (s_end (k_block ?_)))))); refine c_loop (σ := Nat × Dsk × StG × (Nat → Bool)) (fun ⟨i, D, G, la⟩ => [(14, .int .i64 (i : Int)), (0, .slice ao qs.length oc), (1, .int .i64 s), (2, .int .i64 l), (3, .int .i64 cut), (4, pkv), (11, .pointer (some ⟨pd, 0, none⟩)), (12, .pointer (some ⟨ps, 0, none⟩)), (13, .pointer (some ⟨b1, 0, none⟩))])
   (fun ⟨i, D, G, la⟩ w => Sep z (blk b1 (laL la) 69 :: stoA ps pd D G none :: A :: R) w ∧ (i ≤ qs.length ∧ Fine D G (3 + 2 * i) ∧ D.n = 400 ∧ G.x.pages = 16 ∧ laP la G.M)) (fun ⟨i, D, G, la⟩ => qs.length - i) ⟨0, D0, g07, (fun _ => false)⟩
   (fun _ hF => (hF.co rfl (by go_num) (hF.all rfl))) ⟨H, by omega, fi0, hn0, rfl, fun n _ => .inl ⟨rfl, rfl⟩⟩ ?_
 clear H; rintro ⟨i, D, G, la⟩ w ⟨H', hI⟩; dsimp only at hI H' ⊢
 have H := H'.l3; clear H'; obtain ⟨hi, fi, hDn, hGp, hla⟩ := hI; refine k_seq (k_seq (s_region (s_M 2 rfl rfl (s_do rfl rfl rfl (d_len rfl (z := 1) (by kernel_rfl) rfl) (s_M 1 rfl rfl (s_end (k_dec rfl (fun h1 => ?_) (fun h1 => ?_))))))))
 ·refine k_skip (k_seq (k_block (k_seq (s_region ?_)))); obtain ⟨q_, hq_⟩ : ∃ x, qs[i]? = some x := ⟨_, List.getElem?_eq_getElem (by omega)⟩; have hat := (H.rd 2 rfl (fun h q => (hA h q).1)).at (show (qs.map (Value.int .i64))[i]? = some (.int .i64 q_) by rw [List.getElem?_map, hq_]; rfl)
  refine s_M 2 rfl rfl (s_do rfl rfl rfl (d_indexE rfl (z := 1) (j := i) (r := i) (by kernel_rfl) rfl rfl rfl (by omega) hat (by omega)) (s_do rfl rfl rfl (d_loadE rfl rfl (by kernel_rfl) (here hat)) (s_do rfl rfl rfl (d_rem rfl rfl rfl (by decide)) ?_))); have hm1 := Int.tmod_lt_of_pos q_ (by decide : (0 : Int) < 16)
  have hm2 : -16 < q_.tmod 16 := by have := Int.lt_tmod_of_pos q_ (by decide : (0 : Int) < 16); omega
  refine s_M 1 rfl rfl (s_end (k_seq (k_seq (s_region (s_M 2 rfl rfl (s_end (k_dec rfl (fun h2 => ?_) (fun h2 => ?_))))))))
  ·refine s_region (s_M 1 rfl rfl (s_do rfl rfl rfl (d_add64 rfl rfl rfl (r := (q_.tmod 16) + 16) (by omega) (by omega)) (s_M 1 rfl rfl (s_end (k_seq ?_))))); obtain ⟨n_, hn_⟩ : ∃ n_ : Nat, (n_ : Int) = ((q_.tmod 16) + 16) := ⟨(((q_.tmod 16) + 16)).toNat, by omega⟩; have hn16 : n_ < 16 := by omega
   refine k_updA 15 (u := .int .i64 ((q_.tmod 16) + 16)) (v := .int .i64 (n_ : Int)) rfl (congrArg (Value.int .i64) hn_.symm) (s_region (s_M 1 rfl rfl (s_C rfl rfl rfl rfl rfl (fun w => Tryz.call18 _ w) (begin_s _ _ _ _) H.f1 rfl ?_))); rintro _ w _ ⟨rfl, rfl⟩ H'; have H := H'.l3; clear H'; refine s_M 1 rfl rfl (s_end (k_seq (s_region (s_M 3 rfl rfl (s_do rfl rfl rfl (d_add64 rfl rfl rfl (r := (n_ : Int) + 1) (by omega) (by omega)) (s_C rfl rfl rfl rfl rfl (fun w => Tryz.call20 _ w) (page7_c _) H rfl ?_)))))); rintro _ w _ ⟨pb2, rfl, rfl⟩ H'; have H := H'.l4; clear H'; refine s_C rfl rfl rfl rfl rfl (fun w => Tryz.call19 _ w) (write_s ps pd D G _ _ n_ (by omega) (pgF 5 ((n_ : Int) + 1)) (pgF_ok _ (by omega)) _ _ (fun h q => blk_rd0 q (by rw [List.length_map]; exact pgF_len _ _))) H.f1 rfl ?_; rintro _ w _ (⟨hbad, rfl, rfl⟩ | ⟨_, rfl, rfl⟩) H'
   ·(exfalso; have hbk := hbad.2; omega)
   ·have H := H'.l4; clear H'; refine s_M 1 rfl rfl (s_end (k_seq (s_region (s_M 1 rfl rfl (s_C rfl rfl rfl rfl rfl (fun w => Tryz.call21 _ w) (commit_s _ _ _ _ _ _ (3 + 2 * i) fi (by omega)) H rfl ?_))))); rintro _ w _ ⟨D2, G2, fi2, hn2, ⟨hM2, hns2⟩, hx2, rfl, rfl⟩ H'; have H := H'.l4; clear H'; refine s_M 1 rfl rfl (s_end (k_seq (k_seq (s_region (s_M 2 rfl rfl (k_updA 66 (u := .bool (decide ((0 : Int) ≠ 0))) (v := .bool false) rfl (congrArg Value.bool (by decide)) (s_M 3 rfl rfl (k_updA 69 (u := .bool (decide ((0 : Int) ≠ 0))) (v := .bool false) rfl (congrArg Value.bool (by decide)) (s_M 4 rfl rfl (k_updA 73 (u := .bool (decide ((0 : Int) ≠ 0))) (v := .bool false) rfl (congrArg Value.bool (by decide)) (s_M 1 rfl rfl (s_end (k_false rfl ?_))))))))))))); refine k_skip (s_region (s_M 1 rfl rfl (s_do rfl rfl rfl (d_indexA (l := 16) rfl (z := 1) (j := n_) (r := n_) (by kernel_rfl) rfl rfl rfl (by omega) (by omega)) (s_put rfl rfl (n_store 2 H rfl rfl rfl rfl (vs := [.bool true]) rfl (by simp [u8, u32, Value.oneCell']) (by kernel_rfl) (by rw [laL_len]; simp; omega) (out := (laL (upf la n_ true))) (laL_set _ _ (by omega))) ?_)))); rintro w H'; have H := H'.l4; clear H'; refine s_end (s_region (s_M 1 rfl rfl (s_do rfl rfl rfl (d_add64 rfl rfl rfl (r := (i : Int) + 1) (by omega) (by omega)) (s_M 1 rfl rfl (s_end ?_))))); replace H := H.f1.d.f2.f1.f2; intro _ hF; refine ⟨⟨i + 1, D2, G2, (upf la n_ true)⟩, (hF.co rfl (by go_num) (hF.all rfl)), ⟨H, ?_⟩, ?_⟩
    ·refine ⟨by omega, fi2.le (by omega), hn2.trans hDn, by rcases hx2 with e | e <;> dsimp only <;> rw [e] <;> exact hGp, ?_⟩; dsimp only; rw [hM2]; exact laP_set hla _ _
    ·(dsimp only; omega)
  ·refine k_skip (k_seq ?_); obtain ⟨n_, hn_⟩ : ∃ n_ : Nat, (n_ : Int) = (q_.tmod 16) := ⟨((q_.tmod 16)).toNat, by omega⟩; have hn16 : n_ < 16 := by omega
   refine k_updA 15 (u := .int .i64 (q_.tmod 16)) (v := .int .i64 (n_ : Int)) rfl (congrArg (Value.int .i64) hn_.symm) (s_region (s_M 1 rfl rfl (s_C rfl rfl rfl rfl rfl (fun w => Tryz.call18 _ w) (begin_s _ _ _ _) H.f1 rfl ?_))); rintro _ w _ ⟨rfl, rfl⟩ H'; have H := H'.l3; clear H'; refine s_M 1 rfl rfl (s_end (k_seq (s_region (s_M 3 rfl rfl (s_do rfl rfl rfl (d_add64 rfl rfl rfl (r := (n_ : Int) + 1) (by omega) (by omega)) (s_C rfl rfl rfl rfl rfl (fun w => Tryz.call20 _ w) (page7_c _) H rfl ?_)))))); rintro _ w _ ⟨pb3, rfl, rfl⟩ H'; have H := H'.l4; clear H'; refine s_C rfl rfl rfl rfl rfl (fun w => Tryz.call19 _ w) (write_s ps pd D G _ _ n_ (by omega) (pgF 5 ((n_ : Int) + 1)) (pgF_ok _ (by omega)) _ _ (fun h q => blk_rd0 q (by rw [List.length_map]; exact pgF_len _ _))) H.f1 rfl ?_; rintro _ w _ (⟨hbad, rfl, rfl⟩ | ⟨_, rfl, rfl⟩) H'
   ·(exfalso; have hbk := hbad.2; omega)
   ·have H := H'.l4; clear H'; refine s_M 1 rfl rfl (s_end (k_seq (s_region (s_M 1 rfl rfl (s_C rfl rfl rfl rfl rfl (fun w => Tryz.call21 _ w) (commit_s _ _ _ _ _ _ (3 + 2 * i) fi (by omega)) H rfl ?_))))); rintro _ w _ ⟨D2, G2, fi2, hn2, ⟨hM2, hns2⟩, hx2, rfl, rfl⟩ H'; have H := H'.l4; clear H'; refine s_M 1 rfl rfl (s_end (k_seq (k_seq (s_region (s_M 2 rfl rfl (k_updA 66 (u := .bool (decide ((0 : Int) ≠ 0))) (v := .bool false) rfl (congrArg Value.bool (by decide)) (s_M 3 rfl rfl (k_updA 69 (u := .bool (decide ((0 : Int) ≠ 0))) (v := .bool false) rfl (congrArg Value.bool (by decide)) (s_M 4 rfl rfl (k_updA 73 (u := .bool (decide ((0 : Int) ≠ 0))) (v := .bool false) rfl (congrArg Value.bool (by decide)) (s_M 1 rfl rfl (s_end (k_false rfl ?_))))))))))))); refine k_skip (s_region (s_M 1 rfl rfl (s_do rfl rfl rfl (d_indexA (l := 16) rfl (z := 1) (j := n_) (r := n_) (by kernel_rfl) rfl rfl rfl (by omega) (by omega)) (s_put rfl rfl (n_store 2 H rfl rfl rfl rfl (vs := [.bool true]) rfl (by simp [u8, u32, Value.oneCell']) (by kernel_rfl) (by rw [laL_len]; simp; omega) (out := (laL (upf la n_ true))) (laL_set _ _ (by omega))) ?_)))); rintro w H'; have H := H'.l4; clear H'; refine s_end (s_region (s_M 1 rfl rfl (s_do rfl rfl rfl (d_add64 rfl rfl rfl (r := (i : Int) + 1) (by omega) (by omega)) (s_M 1 rfl rfl (s_end ?_))))); replace H := H.f1.d.f2.f1.f2; intro _ hF; refine ⟨⟨i + 1, D2, G2, (upf la n_ true)⟩, (hF.co rfl (by go_num) (hF.all rfl)), ⟨H, ?_⟩, ?_⟩
    ·refine ⟨by omega, fi2.le (by omega), hn2.trans hDn, by rcases hx2 with e | e <;> dsimp only <;> rw [e] <;> exact hGp, ?_⟩; dsimp only; rw [hM2]; exact laP_set hla _ _
    ·(dsimp only; omega)
 ·refine k_exit (k_here (k_seq (k_seq (s_region (s_M 1 rfl rfl (s_C rfl rfl rfl rfl rfl (fun w => Tryz.call23 _ w) (sync_s _ _ _ _ _ fi) H.f1 rfl ?_)))))); rintro _ w _ ⟨rfl, fiS0, rfl⟩ H'; have H := H'.l3; clear H'; obtain ⟨GS, hGS⟩ : ∃ G2, G2 = ({ G with sure := G.rs.length } : StG) := ⟨_, rfl⟩; rw [← hGS] at H fiS0; have hsS : GS.sure = GS.rs.length := by rw [hGS]
  have hMS : GS.M = G.M := by rw [hGS]; rfl
  have hpS : GS.x.pages = 16 := by rw [hGS]; exact hGp
  clear hGS; obtain ⟨DS, hDS⟩ : ∃ D2, D2 = D.fl := ⟨_, rfl⟩; have hnS : DS.n = 400 := by rw [hDS]; exact hDn
  rw [← hDS] at H fiS0; have fiS := fiS0
  clear hDS; have H' : Sep z (stoA ps pd DS GS none :: blk b1 (laL la) 69 :: A :: R) w := H
  clear H; have H := H'.l3; clear H'; refine s_M 1 rfl rfl (k_updA 79 (u := .bool (decide ((0 : Int) ≠ 0))) (v := .bool false) rfl (congrArg Value.bool (by decide)) (s_end (k_false rfl (k_skip (k_seq (s_region (s_M 1 rfl rfl (s_C rfl rfl rfl rfl rfl (fun w => Tryz.call11 _ w) (new_m _) H rfl ?_)))))))); rintro _ w _ ⟨pm, rfl, rfl⟩ H'; have H := H'.l4; clear H'; refine s_M 1 rfl rfl (s_end (k_seq (k_seq (s_region (s_M 1 rfl rfl (s_do rfl rfl rfl (d_eql_pn rfl (by kernel_rfl) rfl rfl) (s_end (k_false rfl (k_skip (k_seq (s_region (s_M 1 rfl rfl (s_C rfl rfl rfl rfl rfl (fun w => Tryz.call13 _ w) (super_s ps pd DS GS none) H.f1 rfl ?_))))))))))))); rintro _ w _ ⟨rfl, rfl⟩ H'; have H := H'.l4; clear H'; refine s_go rfl rfl rfl (n_alloc (P := Tryz.prog) H rfl (zs := [.int .i64 0, .int .i64 0, .int .i64 0, .int .i64 0, .int .i64 0, .int .i64 0, .int .i64 0]) (by kernel_rfl)) ?_; rintro _ w ⟨b4, rfl, H'⟩; have H := H'.l5; clear H'; refine s_put rfl rfl (n_store 0 H rfl rfl rfl rfl (vs := [.int .i64 GS.x.gen, .int .i64 GS.x.epoch, .int .i64 GS.x.pages, .int .i64 GS.x.start, .int .i64 GS.x.len, .int .i64 GS.x.head, .int .i64 GS.x.seq]) rfl (by simp [u8, u32, Value.oneCell']) (by kernel_rfl) (by simp) (out := [.int .i64 GS.x.gen, .int .i64 GS.x.epoch, .int .i64 GS.x.pages, .int .i64 GS.x.start, .int .i64 GS.x.len, .int .i64 GS.x.head, .int .i64 GS.x.seq]) rfl) ?_; rintro w H'; have H := H'.l5; clear H'; refine s_end (k_seq (s_region (s_M 3 rfl rfl (s_C rfl rfl rfl rfl rfl (fun w => Tryz.call15 _ w) (ask_m _ _ _ _ DS GS _ fiS.bnd (by omega) s l) H.f1.f2 rfl ?_))))
  rintro _ w _ (⟨c7_, hcn7, rfl, rfl⟩ | ⟨hok7, rfl, rfl⟩) H'
  ·have H := H'.l5; clear H'; refine s_M 1 rfl rfl (k_updA 90 (u := .bool (decide ((c7_ : Int) = 0))) (v := .bool false) rfl (congrArg Value.bool (decide_eq_false hcn7)) (s_M 1 rfl rfl (s_end (k_seq (s_region (s_M 2 rfl rfl (s_C rfl rfl rfl rfl rfl (fun w => Tryz.call24 _ w) (cut_s _ _ _ _ _ fiS.bnd _) H.f1 rfl ?_))))))); rintro _ w _ ⟨cc_, D7, hB7, hMv7, rfl, rfl⟩ H'; have H := H'.l5; clear H'; refine s_end (k_seq (s_region (s_M 1 rfl rfl (s_C rfl rfl rfl rfl rfl (fun w => Tryz.call16 _ w) (step0_m _ _) H.f1 rfl ?_)))); rintro _ w _ ⟨rfl, rfl⟩ H'; have H := H'.l5; clear H'; refine s_end (k_seq (s_region (s_M 1 rfl rfl (s_C rfl rfl rfl rfl rfl (fun w => Tryz.call16 _ w) (step0_m _ _) H rfl ?_)))); rintro _ w _ ⟨rfl, rfl⟩ H'; have H := H'.l5; clear H'; refine s_end (k_seq (s_region (s_M 1 rfl rfl (s_C rfl rfl rfl rfl rfl (fun w => Tryz.call16 _ w) (step0_m _ _) H rfl ?_)))); rintro _ w _ ⟨rfl, rfl⟩ H'; have H := H'.l5; clear H'; refine s_end (k_seq (s_region (s_M 2 rfl rfl ?_))); have hMt := hMv7
   have hst : GS.x.start = GS.x.start ∧ GS.x.len = GS.x.len := ⟨rfl, rfl⟩
   have hBt := hB7
   refine s_C rfl rfl rfl rfl rfl (fun w => Tryz.call25 _ w) (crash_g _ _ _ _ _ _ hBt (by omega) _ pk _ (fun h q => (hA h q).2)) H.f4.f2 rfl ?_; rintro _ w _ ⟨Dc, hclc, hnc, hOc, rfl, rfl⟩ H'; have H := H'.l5; clear H'; refine s_end (k_seq (s_region (s_M 1 rfl rfl (s_C rfl rfl rfl rfl rfl (fun w => Tryz.call26 _ w) (open_s _ _ _ _ _ _ hOc hclc ⟨hBt.gen, hBt.epoch⟩ (by omega)) H rfl ?_)))); rintro _ w _ ⟨ps2, D6, got6, hgd6, fi6, hn6, rfl, rfl⟩ H'; have H := H'.l5; clear H'; have hgs := hMt.sure hsS
   have hgot : got6 = GS.rs := by have h1 := hgd6.1; have h2 := hgd6.2.1; have h3 := hgd6.2.2; (try dsimp only at h1 h2 h3); rw [h3]; exact List.take_of_length_le (by omega)
   subst hgot; obtain ⟨G6, hG6⟩ : ∃ G6, G6 = opG GS.x (pgMap (ov GS.rs) GS.B) := ⟨_, rfl⟩; rw [← hG6] at H fi6; have hM6 : G6.M = G.M := by rw [hG6, opG_M, ← hMS, ← hMt.M]; rfl
   have hx6 : G6.x.start = GS.x.start ∧ G6.x.len = GS.x.len := by rw [hG6]; exact ⟨rfl, rfl⟩
   have hp6 : G6.x.pages = 16 := by rw [hG6]; exact hMt.pages.trans hpS
   rw [← hM6] at hla; clear hG6; have H' : Sep z (stoA ps2 pd D6 G6 none :: A :: moA pm ps none :: blk b4 [.int .i64 GS.x.gen, .int .i64 GS.x.epoch, .int .i64 GS.x.pages, .int .i64 GS.x.start, .int .i64 GS.x.len, .int .i64 GS.x.head, .int .i64 GS.x.seq] 49 :: blk b1 (laL la) 69 :: R) w := H
   clear H; have H := H'.l5; clear H'; refine s_M 5 rfl rfl (s_end (k_seq (k_seq (s_region (s_M 2 rfl rfl (k_updA 109 (u := .bool (decide ((0 : Int) ≠ 0))) (v := .bool false) rfl (congrArg Value.bool (by decide)) (s_M 2 rfl rfl (s_do rfl rfl rfl (d_eql_pn rfl (by kernel_rfl) rfl rfl) (s_M 1 rfl rfl (s_end (k_false rfl (k_skip (k_seq ?_))))))))))))); refine s_region (s_M 1 rfl rfl (s_C rfl rfl rfl rfl rfl (fun w => Tryz.call13 _ w) (super_s ps2 pd D6 G6 none) H rfl ?_)); rintro _ w _ ⟨rfl, rfl⟩ H'; have H := H'.l5; clear H'; refine s_go rfl rfl rfl (n_alloc (P := Tryz.prog) H rfl (zs := [.int .i64 0, .int .i64 0, .int .i64 0, .int .i64 0, .int .i64 0, .int .i64 0, .int .i64 0]) (by kernel_rfl)) ?_; rintro _ w ⟨b5, rfl, H'⟩; have H := H'.l6; clear H'; refine s_put rfl rfl (n_store 0 H rfl rfl rfl rfl (vs := [.int .i64 G6.x.gen, .int .i64 G6.x.epoch, .int .i64 G6.x.pages, .int .i64 G6.x.start, .int .i64 G6.x.len, .int .i64 G6.x.head, .int .i64 G6.x.seq]) rfl (by simp [u8, u32, Value.oneCell']) (by kernel_rfl) (by simp) (out := [.int .i64 G6.x.gen, .int .i64 G6.x.epoch, .int .i64 G6.x.pages, .int .i64 G6.x.start, .int .i64 G6.x.len, .int .i64 G6.x.head, .int .i64 G6.x.seq]) rfl) ?_; rintro w H'; have H := H'.l6; clear H'; refine s_end (k_seq (s_region (s_L 6 [3, 0, 3, 1] (mm1 (H.blk 0 rfl) (mm1 (H.blk 4 rfl) mm0)) rfl (by kernel_rfl) rfl (s_part 121 rfl (fun h3 => ?_) (fun h3 => ?_)))))
   ·refine s_L 7 [4, 0, 4, 1] (mm1 (H.blk 0 rfl) (mm1 (H.blk 4 rfl) mm0)) rfl (by kernel_rfl) rfl (s_end (k_seq (s_region (s_M 14 rfl rfl (s_end (k_seq (k_seq (s_region (s_M 1 rfl rfl (s_do rfl rfl rfl (d_not_dec rfl rfl) (s_M 1 rfl rfl (s_part 143 rfl (fun h4 => ?_) (fun h4 => ?_)))))))))))))
    ·(exfalso; omega)
    ·refine s_M 3 rfl rfl (s_end (k_false rfl (k_skip (k_seq (k_seq (s_region (s_M 1 rfl rfl (s_end (k_block ?_))))))))); refine c_loop (σ := Nat) (fun n => [(27, .int .i64 (n : Int)), (13, .pointer (some ⟨b1, 0, none⟩)), (22, .pointer (some ⟨ps2, 0, none⟩))])
       (fun n w => Sep z (blk b5 [.int .i64 G6.x.gen, .int .i64 G6.x.epoch, .int .i64 G6.x.pages, .int .i64 G6.x.start, .int .i64 G6.x.len, .int .i64 G6.x.head, .int .i64 G6.x.seq] 49 :: stoA ps2 pd D6 G6 none :: A :: moA pm ps none :: blk b4 [.int .i64 GS.x.gen, .int .i64 GS.x.epoch, .int .i64 GS.x.pages, .int .i64 GS.x.start, .int .i64 GS.x.len, .int .i64 GS.x.head, .int .i64 GS.x.seq] 49 :: blk b1 (laL la) 69 :: R) w ∧ (n ≤ 16)) (fun n => 16 - n) 0
       (fun _ hF => (hF.co rfl (by go_num) (hF.all rfl))) ⟨H, by omega⟩ ?_
     clear H; rintro n w ⟨H', hI⟩; have H := H'.l6; clear H'; have hn_16 := hI; clear hI
     refine k_seq (k_seq (s_region (s_M 2 rfl rfl (s_end (k_dec rfl (fun h5 => ?_) (fun h5 => ?_))))))
     ·refine k_skip (k_seq (k_block (k_seq (s_region (s_M 2 rfl rfl (s_C rfl rfl rfl rfl rfl (fun w => Tryz.call22 _ w) (read_p ps2 pd D6 G6 n (by omega) fi6.clean.f1 (la n = false) ((n : Int) + 1) (hla n (by omega))) H.f1 rfl ?_)))))); rintro _ w _ (⟨hc_, rfl, rfl⟩ | ⟨hc_, g5, cap5, rest5, hcap5, rfl, rfl⟩) H'
      ·have H := H'.l6; clear H'; refine s_M 3 rfl rfl (s_go rfl rfl rfl (n_alloc (P := Tryz.prog) H rfl (zs := [.int .i64 0, .slice none 0 0]) (by kernel_rfl)) ?_); rintro _ w ⟨b6, rfl, H'⟩; have H := H'.l7; clear H'; refine s_put rfl rfl (n_store 0 H rfl rfl rfl rfl (vs := [.int .i64 0, .slice none 0 0]) rfl (by simp [u8, u32, Value.oneCell']) (by kernel_rfl) (by simp) (out := [.int .i64 0, .slice none 0 0]) rfl) ?_; rintro w H'; have H := H'.l7; clear H'; refine s_M 1 rfl rfl (s_end (k_seq (s_region (s_M 2 rfl rfl (k_updA 158 (u := .bool (decide ((0 : Int) ≠ 0))) (v := .bool false) rfl (congrArg Value.bool (by decide)) (s_M 2 rfl rfl (s_do rfl rfl rfl (d_indexA (l := 16) rfl (z := 1) (j := n) (r := n) (by kernel_rfl) rfl rfl rfl (by omega) (by omega)) (s_do rfl rfl rfl (d_load rfl rfl (by kernel_rfl) (here (H.cel 6 rfl n (laL_get _ (by omega))))) (k_updA 162 (u := .bool (la n)) (v := .bool false) rfl (congrArg Value.bool hc_) (s_M 19 rfl rfl (s_do rfl rfl rfl (d_indexA (l := 16) rfl (z := 1) (j := n) (r := n) (by kernel_rfl) rfl rfl rfl (by omega) (by omega)) (s_do rfl rfl rfl (d_load rfl rfl (by kernel_rfl) (here (H.cel 6 rfl n (laL_get _ (by omega))))) (k_updA 183 (u := .bool (la n)) (v := .bool false) rfl (congrArg Value.bool hc_) ?_))))))))))))); refine s_L 5 [0, 0] (mm1 (H.blk 0 rfl) mm0) rfl (by kernel_rfl) rfl (k_updA 188 (u := .bool (decide ((0 : Int) ≠ 0))) (v := .bool false) rfl (congrArg Value.bool (by decide)) (s_M 2 rfl rfl (s_end (k_false rfl (k_skip (s_region (s_M 1 rfl rfl (s_do rfl rfl rfl (d_add64 rfl rfl rfl (r := (n : Int) + 1) (by omega) (by omega)) (s_M 1 rfl rfl (s_end ?_))))))))))
       replace H := H.d.f5.f5.f5.f5.f4.f5; intro _ hF; refine ⟨(n + 1), (hF.co rfl (by go_num) (hF.all rfl)), ⟨H, ?_⟩, ?_⟩
       ·omega
       ·omega
      ·have H := H'.l7; clear H'; refine s_M 3 rfl rfl (s_go rfl rfl rfl (n_alloc (P := Tryz.prog) H rfl (zs := [.int .i64 0, .slice none 0 0]) (by kernel_rfl)) ?_); rintro _ w ⟨b7, rfl, H'⟩; have H := H'.l8; clear H'; refine s_put rfl rfl (n_store 0 H rfl rfl rfl rfl (vs := [.int .i64 5, .slice (some ⟨g5, 0, none⟩) 240 cap5]) rfl (by simp [u8, u32, Value.oneCell']) (by kernel_rfl) (by simp) (out := [.int .i64 5, .slice (some ⟨g5, 0, none⟩) 240 cap5]) rfl) ?_; rintro w H'; have H := H'.l8; clear H'; refine s_M 1 rfl rfl (s_end (k_seq (s_region (s_M 2 rfl rfl (k_updA 158 (u := .bool (decide ((0 : Int) ≠ 0))) (v := .bool false) rfl (congrArg Value.bool (by decide)) (s_M 2 rfl rfl (s_do rfl rfl rfl (d_indexA (l := 16) rfl (z := 1) (j := n) (r := n) (by kernel_rfl) rfl rfl rfl (by omega) (by omega)) (s_do rfl rfl rfl (d_load rfl rfl (by kernel_rfl) (here (H.cel 7 rfl n (laL_get _ (by omega))))) (k_updA 162 (u := .bool (la n)) (v := .bool true) rfl (congrArg Value.bool (by simpa using hc_)) (s_L 3 [1, 0] (mm1 (H.blk 0 rfl) mm0) rfl (by kernel_rfl) rfl (s_do rfl rfl rfl (d_len rfl (z := 1) (by kernel_rfl) rfl) (s_M 1 rfl rfl (k_updA 167 (u := .bool (decide ((240 : Int) ≠ 240))) (v := .bool false) rfl (congrArg Value.bool (by decide)) ?_))))))))))))); refine s_L 3 [1, 0] (mm1 (H.blk 0 rfl) mm0) rfl (by kernel_rfl) rfl (s_do rfl rfl rfl (d_index rfl (z := 1) (j := 0) (r := 0) (by kernel_rfl) rfl rfl rfl (by omega) (by omega)) (s_do rfl rfl rfl (d_load rfl rfl (by kernel_rfl) (here (H.cel 1 rfl 0 (pgF_get _ _ (by omega))))) (s_M 1 rfl rfl (s_do rfl rfl rfl (d_add64 rfl rfl rfl (r := (n : Int) + 1) (by omega) (by omega)) (s_do rfl rfl rfl (d_to8 rfl (by kernel_rfl) rfl) (s_do rfl rfl rfl (d_neq8 (k := .u8) rfl (by kernel_rfl) rfl rfl) (k_updA 176 (u := .bool (decide (byt ((n : Int) + 1) ≠ byt ((n : Int) + 1)))) (v := .bool false) rfl (congrArg Value.bool (by simp)) (s_M 5 rfl rfl (s_do rfl rfl rfl (d_indexA (l := 16) rfl (z := 1) (j := n) (r := n) (by kernel_rfl) rfl rfl rfl (by omega) (by omega)) (s_do rfl rfl rfl (d_load rfl rfl (by kernel_rfl) (here (H.cel 7 rfl n (laL_get _ (by omega))))) (k_updA 183 (u := .bool (la n)) (v := .bool true) rfl (congrArg Value.bool (by simpa using hc_)) (s_M 7 rfl rfl (s_end ?_)))))))))))))
       refine k_false rfl (k_skip (s_region (s_M 1 rfl rfl (s_do rfl rfl rfl (d_add64 rfl rfl rfl (r := (n : Int) + 1) (by omega) (by omega)) (s_M 1 rfl rfl (s_end ?_)))))); replace H := H.f1.d.d.f5.f5.f5.f5.f4.f5; intro _ hF; refine ⟨(n + 1), (hF.co rfl (by go_num) (hF.all rfl)), ⟨H, ?_⟩, ?_⟩
       ·omega
       ·omega
     ·refine k_exit (k_here (k_seq (s_region (s_M 1 rfl rfl (s_end (k_ret (doneL rfl [.bool true] ⟨rfl, trivial⟩ (v := .bool true) rfl ?_))))))); exact ⟨[A], ⟨rfl, rfl⟩, H.perm 6 [2] rfl rfl⟩
   ·(exfalso; omega)
  ·have H := H'.l5; clear H'; refine s_M 1 rfl rfl (k_updA 90 (u := .bool (decide ((0 : Int) = 0))) (v := .bool true) rfl (congrArg Value.bool (by decide)) (s_M 1 rfl rfl (s_end (k_seq (s_region (s_M 2 rfl rfl (s_C rfl rfl rfl rfl rfl (fun w => Tryz.call24 _ w) (cut_s _ _ _ _ _ fiS.bnd _) H.f1 rfl ?_))))))); rintro _ w _ ⟨cc_, D7, hB7, hMv7, rfl, rfl⟩ H'; have H := H'.l5; clear H'; refine s_end (k_seq (s_region (s_M 1 rfl rfl (s_C rfl rfl rfl rfl rfl (fun w => Tryz.call16 _ w) (step_w _ _ _ (some (s, l)) s l (fun a b e => by cases e; exact ⟨rfl, rfl⟩) _ _ _ hB7 (by omega)) H.f1 rfl ?_)))); rintro _ w _ ⟨b8_, c8_, D8, G8, t8, hB8, hMv8, hs8, hW8, rfl, rfl⟩ H'; have H := H'.l5; clear H'; refine s_end (k_seq (s_region (s_M 1 rfl rfl (s_C rfl rfl rfl rfl rfl (fun w => Tryz.call16 _ w) (step_w _ _ _ t8 s l hW8 _ _ _ hB8 (by omega)) H rfl ?_)))); rintro _ w _ ⟨b9_, c9_, D9, G9, t9, hB9, hMv9, hs9, hW9, rfl, rfl⟩ H'; have H := H'.l5; clear H'; refine s_end (k_seq (s_region (s_M 1 rfl rfl (s_C rfl rfl rfl rfl rfl (fun w => Tryz.call16 _ w) (step_w _ _ _ t9 s l hW9 _ _ _ hB9 (by omega)) H rfl ?_)))); rintro _ w _ ⟨b10_, c10_, D10, G10, t10, hB10, hMv10, hs10, hW10, rfl, rfl⟩ H'; have H := H'.l5; clear H'; refine s_end (k_seq (s_region (s_M 2 rfl rfl ?_))); have hMt := ((hMv7.trans hMv8).trans hMv9).trans hMv10
   have hst : (G10.x.start = GS.x.start ∧ G10.x.len = GS.x.len) ∨ (G10.x.start = s ∧ G10.x.len = l) := by omega
   have hBt := hB10
   refine s_C rfl rfl rfl rfl rfl (fun w => Tryz.call25 _ w) (crash_g _ _ _ _ _ _ hBt (by omega) _ pk _ (fun h q => (hA h q).2)) H.f4.f2 rfl ?_; rintro _ w _ ⟨Dc, hclc, hnc, hOc, rfl, rfl⟩ H'; have H := H'.l5; clear H'; refine s_end (k_seq (s_region (s_M 1 rfl rfl (s_C rfl rfl rfl rfl rfl (fun w => Tryz.call26 _ w) (open_s _ _ _ _ _ _ hOc hclc ⟨hBt.gen, hBt.epoch⟩ (by omega)) H rfl ?_)))); rintro _ w _ ⟨ps2, D6, got6, hgd6, fi6, hn6, rfl, rfl⟩ H'; have H := H'.l5; clear H'; have hgs := hMt.sure hsS
   have hgot : got6 = G10.rs := by have h1 := hgd6.1; have h2 := hgd6.2.1; have h3 := hgd6.2.2; (try dsimp only at h1 h2 h3); rw [h3]; exact List.take_of_length_le (by omega)
   subst hgot; obtain ⟨G6, hG6⟩ : ∃ G6, G6 = opG G10.x (pgMap (ov G10.rs) G10.B) := ⟨_, rfl⟩; rw [← hG6] at H fi6; have hM6 : G6.M = G.M := by rw [hG6, opG_M, ← hMS, ← hMt.M]; rfl
   have hx6 : G6.x.start = G10.x.start ∧ G6.x.len = G10.x.len := by rw [hG6]; exact ⟨rfl, rfl⟩
   have hp6 : G6.x.pages = 16 := by rw [hG6]; exact hMt.pages.trans hpS
   rw [← hM6] at hla; clear hG6; have H' : Sep z (stoA ps2 pd D6 G6 none :: A :: moA pm ps t10 :: blk b4 [.int .i64 GS.x.gen, .int .i64 GS.x.epoch, .int .i64 GS.x.pages, .int .i64 GS.x.start, .int .i64 GS.x.len, .int .i64 GS.x.head, .int .i64 GS.x.seq] 49 :: blk b1 (laL la) 69 :: R) w := H
   clear H; have H := H'.l5; clear H'; refine s_M 5 rfl rfl (s_end (k_seq (k_seq (s_region (s_M 2 rfl rfl (k_updA 109 (u := .bool (decide ((0 : Int) ≠ 0))) (v := .bool false) rfl (congrArg Value.bool (by decide)) (s_M 2 rfl rfl (s_do rfl rfl rfl (d_eql_pn rfl (by kernel_rfl) rfl rfl) (s_M 1 rfl rfl (s_end (k_false rfl (k_skip (k_seq ?_))))))))))))); refine s_region (s_M 1 rfl rfl (s_C rfl rfl rfl rfl rfl (fun w => Tryz.call13 _ w) (super_s ps2 pd D6 G6 none) H rfl ?_)); rintro _ w _ ⟨rfl, rfl⟩ H'; have H := H'.l5; clear H'; refine s_go rfl rfl rfl (n_alloc (P := Tryz.prog) H rfl (zs := [.int .i64 0, .int .i64 0, .int .i64 0, .int .i64 0, .int .i64 0, .int .i64 0, .int .i64 0]) (by kernel_rfl)) ?_; rintro _ w ⟨b8, rfl, H'⟩; have H := H'.l6; clear H'; refine s_put rfl rfl (n_store 0 H rfl rfl rfl rfl (vs := [.int .i64 G6.x.gen, .int .i64 G6.x.epoch, .int .i64 G6.x.pages, .int .i64 G6.x.start, .int .i64 G6.x.len, .int .i64 G6.x.head, .int .i64 G6.x.seq]) rfl (by simp [u8, u32, Value.oneCell']) (by kernel_rfl) (by simp) (out := [.int .i64 G6.x.gen, .int .i64 G6.x.epoch, .int .i64 G6.x.pages, .int .i64 G6.x.start, .int .i64 G6.x.len, .int .i64 G6.x.head, .int .i64 G6.x.seq]) rfl) ?_; rintro w H'; have H := H'.l6; clear H'; refine s_end (k_seq (s_region (s_L 6 [3, 0, 3, 1] (mm1 (H.blk 0 rfl) (mm1 (H.blk 4 rfl) mm0)) rfl (by kernel_rfl) rfl (s_part 121 rfl (fun h6 => ?_) (fun h6 => ?_)))))
   ·refine s_L 7 [4, 0, 4, 1] (mm1 (H.blk 0 rfl) (mm1 (H.blk 4 rfl) mm0)) rfl (by kernel_rfl) rfl (s_end (k_seq (s_region (s_L 8 [3, 0] (mm1 (H.blk 0 rfl) mm0) rfl (by kernel_rfl) rfl (s_part 135 rfl (fun h7 => ?_) (fun h7 => ?_))))))
    ·refine s_L 6 [4, 0] (mm1 (H.blk 0 rfl) mm0) rfl (by kernel_rfl) rfl (s_end (k_seq (k_seq (s_region (s_M 1 rfl rfl (s_do rfl rfl rfl (d_not_dec rfl rfl) (s_M 1 rfl rfl (s_part 143 rfl (fun h8 => ?_) (fun h8 => ?_)))))))))
     ·refine s_M 1 rfl rfl (s_do rfl rfl rfl (d_not_dec rfl rfl) (s_M 1 rfl rfl (s_end (k_dec rfl (fun h9 => ?_) (fun h9 => ?_)))))
      ·(exfalso; omega)
      ·refine k_skip (k_seq (k_seq (s_region (s_M 1 rfl rfl (s_end (k_block ?_)))))); refine c_loop (σ := Nat) (fun n => [(27, .int .i64 (n : Int)), (13, .pointer (some ⟨b1, 0, none⟩)), (22, .pointer (some ⟨ps2, 0, none⟩))])
         (fun n w => Sep z (blk b8 [.int .i64 G6.x.gen, .int .i64 G6.x.epoch, .int .i64 G6.x.pages, .int .i64 G6.x.start, .int .i64 G6.x.len, .int .i64 G6.x.head, .int .i64 G6.x.seq] 49 :: stoA ps2 pd D6 G6 none :: A :: moA pm ps t10 :: blk b4 [.int .i64 GS.x.gen, .int .i64 GS.x.epoch, .int .i64 GS.x.pages, .int .i64 GS.x.start, .int .i64 GS.x.len, .int .i64 GS.x.head, .int .i64 GS.x.seq] 49 :: blk b1 (laL la) 69 :: R) w ∧ (n ≤ 16)) (fun n => 16 - n) 0
         (fun _ hF => (hF.co rfl (by go_num) (hF.all rfl))) ⟨H, by omega⟩ ?_
       clear H; rintro n w ⟨H', hI⟩; have H := H'.l6; clear H'; have hn_16 := hI; clear hI
       refine k_seq (k_seq (s_region (s_M 2 rfl rfl (s_end (k_dec rfl (fun h10 => ?_) (fun h10 => ?_))))))
       ·refine k_skip (k_seq (k_block (k_seq (s_region (s_M 2 rfl rfl (s_C rfl rfl rfl rfl rfl (fun w => Tryz.call22 _ w) (read_p ps2 pd D6 G6 n (by omega) fi6.clean.f1 (la n = false) ((n : Int) + 1) (hla n (by omega))) H.f1 rfl ?_)))))); rintro _ w _ (⟨hc_, rfl, rfl⟩ | ⟨hc_, g5, cap5, rest5, hcap5, rfl, rfl⟩) H'
        ·have H := H'.l6; clear H'; refine s_M 3 rfl rfl (s_go rfl rfl rfl (n_alloc (P := Tryz.prog) H rfl (zs := [.int .i64 0, .slice none 0 0]) (by kernel_rfl)) ?_); rintro _ w ⟨b9, rfl, H'⟩; have H := H'.l7; clear H'; refine s_put rfl rfl (n_store 0 H rfl rfl rfl rfl (vs := [.int .i64 0, .slice none 0 0]) rfl (by simp [u8, u32, Value.oneCell']) (by kernel_rfl) (by simp) (out := [.int .i64 0, .slice none 0 0]) rfl) ?_; rintro w H'; have H := H'.l7; clear H'; refine s_M 1 rfl rfl (s_end (k_seq (s_region (s_M 2 rfl rfl (k_updA 158 (u := .bool (decide ((0 : Int) ≠ 0))) (v := .bool false) rfl (congrArg Value.bool (by decide)) (s_M 2 rfl rfl (s_do rfl rfl rfl (d_indexA (l := 16) rfl (z := 1) (j := n) (r := n) (by kernel_rfl) rfl rfl rfl (by omega) (by omega)) (s_do rfl rfl rfl (d_load rfl rfl (by kernel_rfl) (here (H.cel 6 rfl n (laL_get _ (by omega))))) (k_updA 162 (u := .bool (la n)) (v := .bool false) rfl (congrArg Value.bool hc_) (s_M 19 rfl rfl (s_do rfl rfl rfl (d_indexA (l := 16) rfl (z := 1) (j := n) (r := n) (by kernel_rfl) rfl rfl rfl (by omega) (by omega)) (s_do rfl rfl rfl (d_load rfl rfl (by kernel_rfl) (here (H.cel 6 rfl n (laL_get _ (by omega))))) (k_updA 183 (u := .bool (la n)) (v := .bool false) rfl (congrArg Value.bool hc_) ?_))))))))))))); refine s_L 5 [0, 0] (mm1 (H.blk 0 rfl) mm0) rfl (by kernel_rfl) rfl (k_updA 188 (u := .bool (decide ((0 : Int) ≠ 0))) (v := .bool false) rfl (congrArg Value.bool (by decide)) (s_M 2 rfl rfl (s_end (k_false rfl (k_skip (s_region (s_M 1 rfl rfl (s_do rfl rfl rfl (d_add64 rfl rfl rfl (r := (n : Int) + 1) (by omega) (by omega)) (s_M 1 rfl rfl (s_end ?_))))))))))
         replace H := H.d.f5.f5.f5.f5.f4.f5; intro _ hF; refine ⟨(n + 1), (hF.co rfl (by go_num) (hF.all rfl)), ⟨H, ?_⟩, ?_⟩
         ·omega
         ·omega
        ·have H := H'.l7; clear H'; refine s_M 3 rfl rfl (s_go rfl rfl rfl (n_alloc (P := Tryz.prog) H rfl (zs := [.int .i64 0, .slice none 0 0]) (by kernel_rfl)) ?_); rintro _ w ⟨b10, rfl, H'⟩; have H := H'.l8; clear H'; refine s_put rfl rfl (n_store 0 H rfl rfl rfl rfl (vs := [.int .i64 5, .slice (some ⟨g5, 0, none⟩) 240 cap5]) rfl (by simp [u8, u32, Value.oneCell']) (by kernel_rfl) (by simp) (out := [.int .i64 5, .slice (some ⟨g5, 0, none⟩) 240 cap5]) rfl) ?_; rintro w H'; have H := H'.l8; clear H'; refine s_M 1 rfl rfl (s_end (k_seq (s_region (s_M 2 rfl rfl (k_updA 158 (u := .bool (decide ((0 : Int) ≠ 0))) (v := .bool false) rfl (congrArg Value.bool (by decide)) (s_M 2 rfl rfl (s_do rfl rfl rfl (d_indexA (l := 16) rfl (z := 1) (j := n) (r := n) (by kernel_rfl) rfl rfl rfl (by omega) (by omega)) (s_do rfl rfl rfl (d_load rfl rfl (by kernel_rfl) (here (H.cel 7 rfl n (laL_get _ (by omega))))) (k_updA 162 (u := .bool (la n)) (v := .bool true) rfl (congrArg Value.bool (by simpa using hc_)) (s_L 3 [1, 0] (mm1 (H.blk 0 rfl) mm0) rfl (by kernel_rfl) rfl (s_do rfl rfl rfl (d_len rfl (z := 1) (by kernel_rfl) rfl) (s_M 1 rfl rfl (k_updA 167 (u := .bool (decide ((240 : Int) ≠ 240))) (v := .bool false) rfl (congrArg Value.bool (by decide)) ?_))))))))))))); refine s_L 3 [1, 0] (mm1 (H.blk 0 rfl) mm0) rfl (by kernel_rfl) rfl (s_do rfl rfl rfl (d_index rfl (z := 1) (j := 0) (r := 0) (by kernel_rfl) rfl rfl rfl (by omega) (by omega)) (s_do rfl rfl rfl (d_load rfl rfl (by kernel_rfl) (here (H.cel 1 rfl 0 (pgF_get _ _ (by omega))))) (s_M 1 rfl rfl (s_do rfl rfl rfl (d_add64 rfl rfl rfl (r := (n : Int) + 1) (by omega) (by omega)) (s_do rfl rfl rfl (d_to8 rfl (by kernel_rfl) rfl) (s_do rfl rfl rfl (d_neq8 (k := .u8) rfl (by kernel_rfl) rfl rfl) (k_updA 176 (u := .bool (decide (byt ((n : Int) + 1) ≠ byt ((n : Int) + 1)))) (v := .bool false) rfl (congrArg Value.bool (by simp)) (s_M 5 rfl rfl (s_do rfl rfl rfl (d_indexA (l := 16) rfl (z := 1) (j := n) (r := n) (by kernel_rfl) rfl rfl rfl (by omega) (by omega)) (s_do rfl rfl rfl (d_load rfl rfl (by kernel_rfl) (here (H.cel 7 rfl n (laL_get _ (by omega))))) (k_updA 183 (u := .bool (la n)) (v := .bool true) rfl (congrArg Value.bool (by simpa using hc_)) (s_M 7 rfl rfl (s_end ?_)))))))))))))
         refine k_false rfl (k_skip (s_region (s_M 1 rfl rfl (s_do rfl rfl rfl (d_add64 rfl rfl rfl (r := (n : Int) + 1) (by omega) (by omega)) (s_M 1 rfl rfl (s_end ?_)))))); replace H := H.f1.d.d.f5.f5.f5.f5.f4.f5; intro _ hF; refine ⟨(n + 1), (hF.co rfl (by go_num) (hF.all rfl)), ⟨H, ?_⟩, ?_⟩
         ·omega
         ·omega
       ·refine k_exit (k_here (k_seq (s_region (s_M 1 rfl rfl (s_end (k_ret (doneL rfl [.bool true] ⟨rfl, trivial⟩ (v := .bool true) rfl ?_))))))); exact ⟨[A], ⟨rfl, rfl⟩, H.perm 6 [2] rfl rfl⟩
     ·refine s_M 3 rfl rfl (s_end (k_false rfl (k_skip (k_seq (k_seq (s_region (s_M 1 rfl rfl (s_end (k_block ?_))))))))); refine c_loop (σ := Nat) (fun n => [(27, .int .i64 (n : Int)), (13, .pointer (some ⟨b1, 0, none⟩)), (22, .pointer (some ⟨ps2, 0, none⟩))])
        (fun n w => Sep z (blk b8 [.int .i64 G6.x.gen, .int .i64 G6.x.epoch, .int .i64 G6.x.pages, .int .i64 G6.x.start, .int .i64 G6.x.len, .int .i64 G6.x.head, .int .i64 G6.x.seq] 49 :: stoA ps2 pd D6 G6 none :: A :: moA pm ps t10 :: blk b4 [.int .i64 GS.x.gen, .int .i64 GS.x.epoch, .int .i64 GS.x.pages, .int .i64 GS.x.start, .int .i64 GS.x.len, .int .i64 GS.x.head, .int .i64 GS.x.seq] 49 :: blk b1 (laL la) 69 :: R) w ∧ (n ≤ 16)) (fun n => 16 - n) 0
        (fun _ hF => (hF.co rfl (by go_num) (hF.all rfl))) ⟨H, by omega⟩ ?_
      clear H; rintro n w ⟨H', hI⟩; have H := H'.l6; clear H'; have hn_16 := hI; clear hI
      refine k_seq (k_seq (s_region (s_M 2 rfl rfl (s_end (k_dec rfl (fun h11 => ?_) (fun h11 => ?_))))))
      ·refine k_skip (k_seq (k_block (k_seq (s_region (s_M 2 rfl rfl (s_C rfl rfl rfl rfl rfl (fun w => Tryz.call22 _ w) (read_p ps2 pd D6 G6 n (by omega) fi6.clean.f1 (la n = false) ((n : Int) + 1) (hla n (by omega))) H.f1 rfl ?_)))))); rintro _ w _ (⟨hc_, rfl, rfl⟩ | ⟨hc_, g5, cap5, rest5, hcap5, rfl, rfl⟩) H'
       ·have H := H'.l6; clear H'; refine s_M 3 rfl rfl (s_go rfl rfl rfl (n_alloc (P := Tryz.prog) H rfl (zs := [.int .i64 0, .slice none 0 0]) (by kernel_rfl)) ?_); rintro _ w ⟨b11, rfl, H'⟩; have H := H'.l7; clear H'; refine s_put rfl rfl (n_store 0 H rfl rfl rfl rfl (vs := [.int .i64 0, .slice none 0 0]) rfl (by simp [u8, u32, Value.oneCell']) (by kernel_rfl) (by simp) (out := [.int .i64 0, .slice none 0 0]) rfl) ?_; rintro w H'; have H := H'.l7; clear H'; refine s_M 1 rfl rfl (s_end (k_seq (s_region (s_M 2 rfl rfl (k_updA 158 (u := .bool (decide ((0 : Int) ≠ 0))) (v := .bool false) rfl (congrArg Value.bool (by decide)) (s_M 2 rfl rfl (s_do rfl rfl rfl (d_indexA (l := 16) rfl (z := 1) (j := n) (r := n) (by kernel_rfl) rfl rfl rfl (by omega) (by omega)) (s_do rfl rfl rfl (d_load rfl rfl (by kernel_rfl) (here (H.cel 6 rfl n (laL_get _ (by omega))))) (k_updA 162 (u := .bool (la n)) (v := .bool false) rfl (congrArg Value.bool hc_) (s_M 19 rfl rfl (s_do rfl rfl rfl (d_indexA (l := 16) rfl (z := 1) (j := n) (r := n) (by kernel_rfl) rfl rfl rfl (by omega) (by omega)) (s_do rfl rfl rfl (d_load rfl rfl (by kernel_rfl) (here (H.cel 6 rfl n (laL_get _ (by omega))))) (k_updA 183 (u := .bool (la n)) (v := .bool false) rfl (congrArg Value.bool hc_) ?_))))))))))))); refine s_L 5 [0, 0] (mm1 (H.blk 0 rfl) mm0) rfl (by kernel_rfl) rfl (k_updA 188 (u := .bool (decide ((0 : Int) ≠ 0))) (v := .bool false) rfl (congrArg Value.bool (by decide)) (s_M 2 rfl rfl (s_end (k_false rfl (k_skip (s_region (s_M 1 rfl rfl (s_do rfl rfl rfl (d_add64 rfl rfl rfl (r := (n : Int) + 1) (by omega) (by omega)) (s_M 1 rfl rfl (s_end ?_))))))))))
        replace H := H.d.f5.f5.f5.f5.f4.f5; intro _ hF; refine ⟨(n + 1), (hF.co rfl (by go_num) (hF.all rfl)), ⟨H, ?_⟩, ?_⟩
        ·omega
        ·omega
       ·have H := H'.l7; clear H'; refine s_M 3 rfl rfl (s_go rfl rfl rfl (n_alloc (P := Tryz.prog) H rfl (zs := [.int .i64 0, .slice none 0 0]) (by kernel_rfl)) ?_); rintro _ w ⟨b12, rfl, H'⟩; have H := H'.l8; clear H'; refine s_put rfl rfl (n_store 0 H rfl rfl rfl rfl (vs := [.int .i64 5, .slice (some ⟨g5, 0, none⟩) 240 cap5]) rfl (by simp [u8, u32, Value.oneCell']) (by kernel_rfl) (by simp) (out := [.int .i64 5, .slice (some ⟨g5, 0, none⟩) 240 cap5]) rfl) ?_; rintro w H'; have H := H'.l8; clear H'; refine s_M 1 rfl rfl (s_end (k_seq (s_region (s_M 2 rfl rfl (k_updA 158 (u := .bool (decide ((0 : Int) ≠ 0))) (v := .bool false) rfl (congrArg Value.bool (by decide)) (s_M 2 rfl rfl (s_do rfl rfl rfl (d_indexA (l := 16) rfl (z := 1) (j := n) (r := n) (by kernel_rfl) rfl rfl rfl (by omega) (by omega)) (s_do rfl rfl rfl (d_load rfl rfl (by kernel_rfl) (here (H.cel 7 rfl n (laL_get _ (by omega))))) (k_updA 162 (u := .bool (la n)) (v := .bool true) rfl (congrArg Value.bool (by simpa using hc_)) (s_L 3 [1, 0] (mm1 (H.blk 0 rfl) mm0) rfl (by kernel_rfl) rfl (s_do rfl rfl rfl (d_len rfl (z := 1) (by kernel_rfl) rfl) (s_M 1 rfl rfl (k_updA 167 (u := .bool (decide ((240 : Int) ≠ 240))) (v := .bool false) rfl (congrArg Value.bool (by decide)) ?_))))))))))))); refine s_L 3 [1, 0] (mm1 (H.blk 0 rfl) mm0) rfl (by kernel_rfl) rfl (s_do rfl rfl rfl (d_index rfl (z := 1) (j := 0) (r := 0) (by kernel_rfl) rfl rfl rfl (by omega) (by omega)) (s_do rfl rfl rfl (d_load rfl rfl (by kernel_rfl) (here (H.cel 1 rfl 0 (pgF_get _ _ (by omega))))) (s_M 1 rfl rfl (s_do rfl rfl rfl (d_add64 rfl rfl rfl (r := (n : Int) + 1) (by omega) (by omega)) (s_do rfl rfl rfl (d_to8 rfl (by kernel_rfl) rfl) (s_do rfl rfl rfl (d_neq8 (k := .u8) rfl (by kernel_rfl) rfl rfl) (k_updA 176 (u := .bool (decide (byt ((n : Int) + 1) ≠ byt ((n : Int) + 1)))) (v := .bool false) rfl (congrArg Value.bool (by simp)) (s_M 5 rfl rfl (s_do rfl rfl rfl (d_indexA (l := 16) rfl (z := 1) (j := n) (r := n) (by kernel_rfl) rfl rfl rfl (by omega) (by omega)) (s_do rfl rfl rfl (d_load rfl rfl (by kernel_rfl) (here (H.cel 7 rfl n (laL_get _ (by omega))))) (k_updA 183 (u := .bool (la n)) (v := .bool true) rfl (congrArg Value.bool (by simpa using hc_)) (s_M 7 rfl rfl (s_end ?_)))))))))))))
        refine k_false rfl (k_skip (s_region (s_M 1 rfl rfl (s_do rfl rfl rfl (d_add64 rfl rfl rfl (r := (n : Int) + 1) (by omega) (by omega)) (s_M 1 rfl rfl (s_end ?_)))))); replace H := H.f1.d.d.f5.f5.f5.f5.f4.f5; intro _ hF; refine ⟨(n + 1), (hF.co rfl (by go_num) (hF.all rfl)), ⟨H, ?_⟩, ?_⟩
        ·omega
        ·omega
      ·refine k_exit (k_here (k_seq (s_region (s_M 1 rfl rfl (s_end (k_ret (doneL rfl [.bool true] ⟨rfl, trivial⟩ (v := .bool true) rfl ?_))))))); exact ⟨[A], ⟨rfl, rfl⟩, H.perm 6 [2] rfl rfl⟩
    ·refine s_M 6 rfl rfl (s_end (k_seq (k_seq (s_region (s_M 1 rfl rfl (s_do rfl rfl rfl (d_not_dec rfl rfl) (s_M 1 rfl rfl (s_part 143 rfl (fun h12 => ?_) (fun h12 => ?_)))))))))
     ·(exfalso; omega)
     ·refine s_M 3 rfl rfl (s_end (k_false rfl (k_skip (k_seq (k_seq (s_region (s_M 1 rfl rfl (s_end (k_block ?_))))))))); refine c_loop (σ := Nat) (fun n => [(27, .int .i64 (n : Int)), (13, .pointer (some ⟨b1, 0, none⟩)), (22, .pointer (some ⟨ps2, 0, none⟩))])
        (fun n w => Sep z (blk b8 [.int .i64 G6.x.gen, .int .i64 G6.x.epoch, .int .i64 G6.x.pages, .int .i64 G6.x.start, .int .i64 G6.x.len, .int .i64 G6.x.head, .int .i64 G6.x.seq] 49 :: stoA ps2 pd D6 G6 none :: A :: moA pm ps t10 :: blk b4 [.int .i64 GS.x.gen, .int .i64 GS.x.epoch, .int .i64 GS.x.pages, .int .i64 GS.x.start, .int .i64 GS.x.len, .int .i64 GS.x.head, .int .i64 GS.x.seq] 49 :: blk b1 (laL la) 69 :: R) w ∧ (n ≤ 16)) (fun n => 16 - n) 0
        (fun _ hF => (hF.co rfl (by go_num) (hF.all rfl))) ⟨H, by omega⟩ ?_
      clear H; rintro n w ⟨H', hI⟩; have H := H'.l6; clear H'; have hn_16 := hI; clear hI
      refine k_seq (k_seq (s_region (s_M 2 rfl rfl (s_end (k_dec rfl (fun h13 => ?_) (fun h13 => ?_))))))
      ·refine k_skip (k_seq (k_block (k_seq (s_region (s_M 2 rfl rfl (s_C rfl rfl rfl rfl rfl (fun w => Tryz.call22 _ w) (read_p ps2 pd D6 G6 n (by omega) fi6.clean.f1 (la n = false) ((n : Int) + 1) (hla n (by omega))) H.f1 rfl ?_)))))); rintro _ w _ (⟨hc_, rfl, rfl⟩ | ⟨hc_, g5, cap5, rest5, hcap5, rfl, rfl⟩) H'
       ·have H := H'.l6; clear H'; refine s_M 3 rfl rfl (s_go rfl rfl rfl (n_alloc (P := Tryz.prog) H rfl (zs := [.int .i64 0, .slice none 0 0]) (by kernel_rfl)) ?_); rintro _ w ⟨b13, rfl, H'⟩; have H := H'.l7; clear H'; refine s_put rfl rfl (n_store 0 H rfl rfl rfl rfl (vs := [.int .i64 0, .slice none 0 0]) rfl (by simp [u8, u32, Value.oneCell']) (by kernel_rfl) (by simp) (out := [.int .i64 0, .slice none 0 0]) rfl) ?_; rintro w H'; have H := H'.l7; clear H'; refine s_M 1 rfl rfl (s_end (k_seq (s_region (s_M 2 rfl rfl (k_updA 158 (u := .bool (decide ((0 : Int) ≠ 0))) (v := .bool false) rfl (congrArg Value.bool (by decide)) (s_M 2 rfl rfl (s_do rfl rfl rfl (d_indexA (l := 16) rfl (z := 1) (j := n) (r := n) (by kernel_rfl) rfl rfl rfl (by omega) (by omega)) (s_do rfl rfl rfl (d_load rfl rfl (by kernel_rfl) (here (H.cel 6 rfl n (laL_get _ (by omega))))) (k_updA 162 (u := .bool (la n)) (v := .bool false) rfl (congrArg Value.bool hc_) (s_M 19 rfl rfl (s_do rfl rfl rfl (d_indexA (l := 16) rfl (z := 1) (j := n) (r := n) (by kernel_rfl) rfl rfl rfl (by omega) (by omega)) (s_do rfl rfl rfl (d_load rfl rfl (by kernel_rfl) (here (H.cel 6 rfl n (laL_get _ (by omega))))) (k_updA 183 (u := .bool (la n)) (v := .bool false) rfl (congrArg Value.bool hc_) ?_))))))))))))); refine s_L 5 [0, 0] (mm1 (H.blk 0 rfl) mm0) rfl (by kernel_rfl) rfl (k_updA 188 (u := .bool (decide ((0 : Int) ≠ 0))) (v := .bool false) rfl (congrArg Value.bool (by decide)) (s_M 2 rfl rfl (s_end (k_false rfl (k_skip (s_region (s_M 1 rfl rfl (s_do rfl rfl rfl (d_add64 rfl rfl rfl (r := (n : Int) + 1) (by omega) (by omega)) (s_M 1 rfl rfl (s_end ?_))))))))))
        replace H := H.d.f5.f5.f5.f5.f4.f5; intro _ hF; refine ⟨(n + 1), (hF.co rfl (by go_num) (hF.all rfl)), ⟨H, ?_⟩, ?_⟩
        ·omega
        ·omega
       ·have H := H'.l7; clear H'; refine s_M 3 rfl rfl (s_go rfl rfl rfl (n_alloc (P := Tryz.prog) H rfl (zs := [.int .i64 0, .slice none 0 0]) (by kernel_rfl)) ?_); rintro _ w ⟨b14, rfl, H'⟩; have H := H'.l8; clear H'; refine s_put rfl rfl (n_store 0 H rfl rfl rfl rfl (vs := [.int .i64 5, .slice (some ⟨g5, 0, none⟩) 240 cap5]) rfl (by simp [u8, u32, Value.oneCell']) (by kernel_rfl) (by simp) (out := [.int .i64 5, .slice (some ⟨g5, 0, none⟩) 240 cap5]) rfl) ?_; rintro w H'; have H := H'.l8; clear H'; refine s_M 1 rfl rfl (s_end (k_seq (s_region (s_M 2 rfl rfl (k_updA 158 (u := .bool (decide ((0 : Int) ≠ 0))) (v := .bool false) rfl (congrArg Value.bool (by decide)) (s_M 2 rfl rfl (s_do rfl rfl rfl (d_indexA (l := 16) rfl (z := 1) (j := n) (r := n) (by kernel_rfl) rfl rfl rfl (by omega) (by omega)) (s_do rfl rfl rfl (d_load rfl rfl (by kernel_rfl) (here (H.cel 7 rfl n (laL_get _ (by omega))))) (k_updA 162 (u := .bool (la n)) (v := .bool true) rfl (congrArg Value.bool (by simpa using hc_)) (s_L 3 [1, 0] (mm1 (H.blk 0 rfl) mm0) rfl (by kernel_rfl) rfl (s_do rfl rfl rfl (d_len rfl (z := 1) (by kernel_rfl) rfl) (s_M 1 rfl rfl (k_updA 167 (u := .bool (decide ((240 : Int) ≠ 240))) (v := .bool false) rfl (congrArg Value.bool (by decide)) ?_))))))))))))); refine s_L 3 [1, 0] (mm1 (H.blk 0 rfl) mm0) rfl (by kernel_rfl) rfl (s_do rfl rfl rfl (d_index rfl (z := 1) (j := 0) (r := 0) (by kernel_rfl) rfl rfl rfl (by omega) (by omega)) (s_do rfl rfl rfl (d_load rfl rfl (by kernel_rfl) (here (H.cel 1 rfl 0 (pgF_get _ _ (by omega))))) (s_M 1 rfl rfl (s_do rfl rfl rfl (d_add64 rfl rfl rfl (r := (n : Int) + 1) (by omega) (by omega)) (s_do rfl rfl rfl (d_to8 rfl (by kernel_rfl) rfl) (s_do rfl rfl rfl (d_neq8 (k := .u8) rfl (by kernel_rfl) rfl rfl) (k_updA 176 (u := .bool (decide (byt ((n : Int) + 1) ≠ byt ((n : Int) + 1)))) (v := .bool false) rfl (congrArg Value.bool (by simp)) (s_M 5 rfl rfl (s_do rfl rfl rfl (d_indexA (l := 16) rfl (z := 1) (j := n) (r := n) (by kernel_rfl) rfl rfl rfl (by omega) (by omega)) (s_do rfl rfl rfl (d_load rfl rfl (by kernel_rfl) (here (H.cel 7 rfl n (laL_get _ (by omega))))) (k_updA 183 (u := .bool (la n)) (v := .bool true) rfl (congrArg Value.bool (by simpa using hc_)) (s_M 7 rfl rfl (s_end ?_)))))))))))))
        refine k_false rfl (k_skip (s_region (s_M 1 rfl rfl (s_do rfl rfl rfl (d_add64 rfl rfl rfl (r := (n : Int) + 1) (by omega) (by omega)) (s_M 1 rfl rfl (s_end ?_)))))); replace H := H.f1.d.d.f5.f5.f5.f5.f4.f5; intro _ hF; refine ⟨(n + 1), (hF.co rfl (by go_num) (hF.all rfl)), ⟨H, ?_⟩, ?_⟩
        ·omega
        ·omega
      ·refine k_exit (k_here (k_seq (s_region (s_M 1 rfl rfl (s_end (k_ret (doneL rfl [.bool true] ⟨rfl, trivial⟩ (v := .bool true) rfl ?_))))))); exact ⟨[A], ⟨rfl, rfl⟩, H.perm 6 [2] rfl rfl⟩
   ·refine s_M 7 rfl rfl (s_end (k_seq (s_region (s_L 8 [3, 0] (mm1 (H.blk 0 rfl) mm0) rfl (by kernel_rfl) rfl (s_part 135 rfl (fun h14 => ?_) (fun h14 => ?_))))))
    ·refine s_L 6 [4, 0] (mm1 (H.blk 0 rfl) mm0) rfl (by kernel_rfl) rfl (s_end (k_seq (k_seq (s_region (s_M 4 rfl rfl (s_do rfl rfl rfl (d_not_dec rfl rfl) (s_M 1 rfl rfl (s_end (k_dec rfl (fun h15 => ?_) (fun h15 => ?_))))))))))
     ·(exfalso; omega)
     ·refine k_skip (k_seq (k_seq (s_region (s_M 1 rfl rfl (s_end (k_block ?_)))))); refine c_loop (σ := Nat) (fun n => [(27, .int .i64 (n : Int)), (13, .pointer (some ⟨b1, 0, none⟩)), (22, .pointer (some ⟨ps2, 0, none⟩))])
        (fun n w => Sep z (blk b8 [.int .i64 G6.x.gen, .int .i64 G6.x.epoch, .int .i64 G6.x.pages, .int .i64 G6.x.start, .int .i64 G6.x.len, .int .i64 G6.x.head, .int .i64 G6.x.seq] 49 :: stoA ps2 pd D6 G6 none :: A :: moA pm ps t10 :: blk b4 [.int .i64 GS.x.gen, .int .i64 GS.x.epoch, .int .i64 GS.x.pages, .int .i64 GS.x.start, .int .i64 GS.x.len, .int .i64 GS.x.head, .int .i64 GS.x.seq] 49 :: blk b1 (laL la) 69 :: R) w ∧ (n ≤ 16)) (fun n => 16 - n) 0
        (fun _ hF => (hF.co rfl (by go_num) (hF.all rfl))) ⟨H, by omega⟩ ?_
      clear H; rintro n w ⟨H', hI⟩; have H := H'.l6; clear H'; have hn_16 := hI; clear hI
      refine k_seq (k_seq (s_region (s_M 2 rfl rfl (s_end (k_dec rfl (fun h16 => ?_) (fun h16 => ?_))))))
      ·refine k_skip (k_seq (k_block (k_seq (s_region (s_M 2 rfl rfl (s_C rfl rfl rfl rfl rfl (fun w => Tryz.call22 _ w) (read_p ps2 pd D6 G6 n (by omega) fi6.clean.f1 (la n = false) ((n : Int) + 1) (hla n (by omega))) H.f1 rfl ?_)))))); rintro _ w _ (⟨hc_, rfl, rfl⟩ | ⟨hc_, g5, cap5, rest5, hcap5, rfl, rfl⟩) H'
       ·have H := H'.l6; clear H'; refine s_M 3 rfl rfl (s_go rfl rfl rfl (n_alloc (P := Tryz.prog) H rfl (zs := [.int .i64 0, .slice none 0 0]) (by kernel_rfl)) ?_); rintro _ w ⟨b15, rfl, H'⟩; have H := H'.l7; clear H'; refine s_put rfl rfl (n_store 0 H rfl rfl rfl rfl (vs := [.int .i64 0, .slice none 0 0]) rfl (by simp [u8, u32, Value.oneCell']) (by kernel_rfl) (by simp) (out := [.int .i64 0, .slice none 0 0]) rfl) ?_; rintro w H'; have H := H'.l7; clear H'; refine s_M 1 rfl rfl (s_end (k_seq (s_region (s_M 2 rfl rfl (k_updA 158 (u := .bool (decide ((0 : Int) ≠ 0))) (v := .bool false) rfl (congrArg Value.bool (by decide)) (s_M 2 rfl rfl (s_do rfl rfl rfl (d_indexA (l := 16) rfl (z := 1) (j := n) (r := n) (by kernel_rfl) rfl rfl rfl (by omega) (by omega)) (s_do rfl rfl rfl (d_load rfl rfl (by kernel_rfl) (here (H.cel 6 rfl n (laL_get _ (by omega))))) (k_updA 162 (u := .bool (la n)) (v := .bool false) rfl (congrArg Value.bool hc_) (s_M 19 rfl rfl (s_do rfl rfl rfl (d_indexA (l := 16) rfl (z := 1) (j := n) (r := n) (by kernel_rfl) rfl rfl rfl (by omega) (by omega)) (s_do rfl rfl rfl (d_load rfl rfl (by kernel_rfl) (here (H.cel 6 rfl n (laL_get _ (by omega))))) (k_updA 183 (u := .bool (la n)) (v := .bool false) rfl (congrArg Value.bool hc_) ?_))))))))))))); refine s_L 5 [0, 0] (mm1 (H.blk 0 rfl) mm0) rfl (by kernel_rfl) rfl (k_updA 188 (u := .bool (decide ((0 : Int) ≠ 0))) (v := .bool false) rfl (congrArg Value.bool (by decide)) (s_M 2 rfl rfl (s_end (k_false rfl (k_skip (s_region (s_M 1 rfl rfl (s_do rfl rfl rfl (d_add64 rfl rfl rfl (r := (n : Int) + 1) (by omega) (by omega)) (s_M 1 rfl rfl (s_end ?_))))))))))
        replace H := H.d.f5.f5.f5.f5.f4.f5; intro _ hF; refine ⟨(n + 1), (hF.co rfl (by go_num) (hF.all rfl)), ⟨H, ?_⟩, ?_⟩
        ·omega
        ·omega
       ·have H := H'.l7; clear H'; refine s_M 3 rfl rfl (s_go rfl rfl rfl (n_alloc (P := Tryz.prog) H rfl (zs := [.int .i64 0, .slice none 0 0]) (by kernel_rfl)) ?_); rintro _ w ⟨b16, rfl, H'⟩; have H := H'.l8; clear H'; refine s_put rfl rfl (n_store 0 H rfl rfl rfl rfl (vs := [.int .i64 5, .slice (some ⟨g5, 0, none⟩) 240 cap5]) rfl (by simp [u8, u32, Value.oneCell']) (by kernel_rfl) (by simp) (out := [.int .i64 5, .slice (some ⟨g5, 0, none⟩) 240 cap5]) rfl) ?_; rintro w H'; have H := H'.l8; clear H'; refine s_M 1 rfl rfl (s_end (k_seq (s_region (s_M 2 rfl rfl (k_updA 158 (u := .bool (decide ((0 : Int) ≠ 0))) (v := .bool false) rfl (congrArg Value.bool (by decide)) (s_M 2 rfl rfl (s_do rfl rfl rfl (d_indexA (l := 16) rfl (z := 1) (j := n) (r := n) (by kernel_rfl) rfl rfl rfl (by omega) (by omega)) (s_do rfl rfl rfl (d_load rfl rfl (by kernel_rfl) (here (H.cel 7 rfl n (laL_get _ (by omega))))) (k_updA 162 (u := .bool (la n)) (v := .bool true) rfl (congrArg Value.bool (by simpa using hc_)) (s_L 3 [1, 0] (mm1 (H.blk 0 rfl) mm0) rfl (by kernel_rfl) rfl (s_do rfl rfl rfl (d_len rfl (z := 1) (by kernel_rfl) rfl) (s_M 1 rfl rfl (k_updA 167 (u := .bool (decide ((240 : Int) ≠ 240))) (v := .bool false) rfl (congrArg Value.bool (by decide)) ?_))))))))))))); refine s_L 3 [1, 0] (mm1 (H.blk 0 rfl) mm0) rfl (by kernel_rfl) rfl (s_do rfl rfl rfl (d_index rfl (z := 1) (j := 0) (r := 0) (by kernel_rfl) rfl rfl rfl (by omega) (by omega)) (s_do rfl rfl rfl (d_load rfl rfl (by kernel_rfl) (here (H.cel 1 rfl 0 (pgF_get _ _ (by omega))))) (s_M 1 rfl rfl (s_do rfl rfl rfl (d_add64 rfl rfl rfl (r := (n : Int) + 1) (by omega) (by omega)) (s_do rfl rfl rfl (d_to8 rfl (by kernel_rfl) rfl) (s_do rfl rfl rfl (d_neq8 (k := .u8) rfl (by kernel_rfl) rfl rfl) (k_updA 176 (u := .bool (decide (byt ((n : Int) + 1) ≠ byt ((n : Int) + 1)))) (v := .bool false) rfl (congrArg Value.bool (by simp)) (s_M 5 rfl rfl (s_do rfl rfl rfl (d_indexA (l := 16) rfl (z := 1) (j := n) (r := n) (by kernel_rfl) rfl rfl rfl (by omega) (by omega)) (s_do rfl rfl rfl (d_load rfl rfl (by kernel_rfl) (here (H.cel 7 rfl n (laL_get _ (by omega))))) (k_updA 183 (u := .bool (la n)) (v := .bool true) rfl (congrArg Value.bool (by simpa using hc_)) (s_M 7 rfl rfl (s_end ?_)))))))))))))
        refine k_false rfl (k_skip (s_region (s_M 1 rfl rfl (s_do rfl rfl rfl (d_add64 rfl rfl rfl (r := (n : Int) + 1) (by omega) (by omega)) (s_M 1 rfl rfl (s_end ?_)))))); replace H := H.f1.d.d.f5.f5.f5.f5.f4.f5; intro _ hF; refine ⟨(n + 1), (hF.co rfl (by go_num) (hF.all rfl)), ⟨H, ?_⟩, ?_⟩
        ·omega
        ·omega
      ·refine k_exit (k_here (k_seq (s_region (s_M 1 rfl rfl (s_end (k_ret (doneL rfl [.bool true] ⟨rfl, trivial⟩ (v := .bool true) rfl ?_))))))); exact ⟨[A], ⟨rfl, rfl⟩, H.perm 6 [2] rfl rfl⟩
    ·(exfalso; omega)
end Go.Proofs.YtbegkbjigbkljaaGreatDoor
namespace Go.Proofs.YtbegkbjigbkljaaGreatDoor
open Go.ChangeShapes Go.WideShapes Go.ChangeAt Go.RowKit Go.Joins
theorem rcr_met (os : Os) : laidMet Tryz.prog Rows.relogCrashUptoRow.laid ((laidWorld os).forCall (fun _ _ => 0) ⟨#[], #[.slice none 0 0, .int .i64 0, .int .i64 0, .int .i64 0, .slice none 0 0], []⟩).memory :=
  laidMet_of_run' 8 (by kernel_rfl) (by kernel_rfl)
theorem rcr_reads (os : Os) {H : Type} (enc : TypeId × Value → H) : ∃ places, DataW.whole enc Tryz.prog ((laidWorld os).forCall (fun _ _ => 0) ⟨#[], #[.slice none 0 0, .int .i64 0, .int .i64 0, .int .i64 0, .slice none 0 0], []⟩).memory Tryz.f5.params.toList Rows.relogCrashSpec.vars false #[Value.slice none 0 0, .int .i64 0, .int .i64 0, .int .i64 0, .slice none 0 0].toList 8 = some ([.nil, .lit (.int .i64 0), .lit (.int .i64 0), .lit (.int .i64 0), .nil], [], places) :=
  ⟨[], by kernel_rfl⟩
theorem rcr_contract (H : Type) (enc : TypeId × Value → H) (W : World) (base : Nat) (args : Array Value) (ds gs : List (DataW H)) (before : List MemPlace)
    (hval : ∀ (j : Nat) t v, Tryz.f5.params[j]? = some t → args[j]? = some v → Value.okWide Tryz.prog W .any base t v)
    (hW : DataW.Whole enc Tryz.prog Tryz.f5.params.toList Rows.relogCrashSpec.vars false W args.toList ds gs before) (hk : Rows.uptoSmall H (ds ++ gs) = true) :
    Calls Tryz.prog 5 args W fun e W' => ∃ v, e = .returned v ∧ Rows.relogCrashSpec.post enc Tryz.prog Tryz.f5 false true false false W args v W' := by
  have hW0 := hW
  obtain ⟨p, q, hA0, hV, rfl, _, _⟩ := hW
  have hA : DataW.TrodAll enc Tryz.prog W 0 (fun _ => true) true Tryz.f5.params.toList args.toList ds p := hA0
  rw [Tryz.params5] at hA hval
  obtain ⟨v0, v1, v2, v3, v4, d0, d1, d2, d3, d4, p0, p1, p2, p3, p4, rfl, rfl, rfl, h0, h1, h2, h3, h4⟩ := trod5 hA
  obtain ⟨rfl, rfl⟩ := trodVars_none hV
  simp only [List.append_nil] at hW0 hk
  have t0 : ∀ x ∈ p0, x.block < W.heap.size := fun x hx => by have := hW0.lt x (by simp [hx]); simpa using this
  have t4 : ∀ x ∈ p4, x.block < W.heap.size := fun x hx => by have := hW0.lt x (by simp [hx]); simpa using this
  have hb : Rows.uptoBulkAll [d0, d1, d2, d3, d4] ≤ 1048576 := of_decide_eq_true hk
  simp only [Rows.uptoBulkAll] at hb
  obtain ⟨ao0, l0, c0, rfl⟩ := okWide_slice Tryz.underlying45 (hval 0 45 v0 rfl rfl)
  obtain ⟨fuel0, hf0⟩ := id h0
  obtain ⟨pk0, hpk0, hlen0⟩ := open_rdB (h := hf0)
  obtain ⟨i1, rfl, rfl, rfl, wi1⟩ := open_int Tryz.underlying3 (hval 1 3 v1 rfl rfl) h1
  obtain ⟨i2, rfl, rfl, rfl, wi2⟩ := open_int Tryz.underlying3 (hval 2 3 v2 rfl rfl) h2
  obtain ⟨i3, rfl, rfl, rfl, wi3⟩ := open_int Tryz.underlying3 (hval 3 3 v3 rfl rfl) h3
  obtain ⟨ao4, l4, c4, rfl⟩ := okWide_slice Tryz.underlying45 (hval 4 45 v4 rfl rfl)
  obtain ⟨fuel4, hf4⟩ := id h4
  obtain ⟨pk4, hpk4, hlen4⟩ := open_rdB (h := hf4)
  refine (Cn.run (relogCrash_c _ _ i1 i2 i3 pk0 pk4 (by omega) (YtbegkbjigbkljaaGreatDoor.base W) (fun h hh => ⟨rd_base hpk0 h hh, rd_base hpk4 h hh⟩))).mono fun e W' hR => ?_
  obtain ⟨u, rfl, rfl, x⟩ : ∃ u, e = Ending.returned u ∧ u = .bool true ∧ Ext No W W' := by cases e <;> first | exact ⟨_, rfl, hR⟩ | exact hR.elim
  exact ⟨_, rfl, _, _, _, [], _, [], hW0, trodAll_mk1 (shut_bool Tryz.underlying4 true), trodmk5 (Below.trod laidOut (by kernel_rfl) (of_decide_eq_true (by kernel_rfl)) h0 x.below t0) (shut_int Tryz.underlying3 wi1) (shut_int Tryz.underlying3 wi2) (shut_int Tryz.underlying3 wi3) (Below.trod laidOut (by kernel_rfl) (of_decide_eq_true (by kernel_rfl)) h4 x.below t4), rfl, x.below.frame _, fun h => by cases h⟩
theorem rcr_lifted (os : Os) (started : os.Started) (H : Type) (enc : TypeId × Value → H) (F : Stop.Interp) :
    ReturnsInHanded {} Tryz.checked os 5 .any ((Rows.OpenSpec.upto Rows.relogCrashSpec).preRow enc Tryz.prog Tryz.f5 Rows.relogCrashUptoRow.domain false Rows.relogCrashUptoRow.laid) (((Rows.OpenSpec.upto Rows.relogCrashSpec).at F).post enc Tryz.prog Tryz.f5 false true false false) := by
  obtain ⟨places, hx⟩ := rcr_reads os enc
  refine returnsInHanded_of_row (C := Tryz.checked) (s := Rows.OpenSpec.upto Rows.relogCrashSpec) own started (by kernel_rfl) Tryz.func5
    (witness_row_at (enc := enc) (C := Tryz.checked) false (laidWorld os) #[.slice none 0 0, .int .i64 0, .int .i64 0, .int .i64 0, .slice none 0 0] rfl (by kernel_rfl) (by kernel_rfl) (by kernel_rfl)
      (OpenSpec.preRow_of_cond 8 hx (by kernel_rfl) (fun k hk => by cases hk; kernel_rfl) (by kernel_rfl) (rcr_met os))) ?_
  intro W base args ds gs before hval hW _ hcond _ _ _ _
  exact rcr_contract H enc W base args ds gs before hval hW (hcond _ rfl)
theorem rcr_said : Rows.RelogCrashUptoSaid :=
  OpenClaim.holds_of_cond 5 Tryz.f5 rfl rfl rfl rfl rfl rfl rfl ⟨rfl, rfl, rfl, rfl, rfl⟩ rfl rfl rfl rfl rfl (by kernel_rfl) Tryz.func5 (by kernel_rfl)
    (of_decide_eq_true (by kernel_rfl)) (by unfold Func.isWrapper; first | (rw [if_pos (by decide +kernel)]; kernel_rfl) | (rw [if_neg (by decide +kernel)]; exact ⟨rfl, rfl⟩))
    (fun os started H enc _ F => by rw [OpenClaim.pre_eq_preRow]; exact rcr_lifted os started H enc F)
theorem rcr_plain (f : FuncId) (fn : Func) (hf : Tryz.pinned.checked.prog.funcNamed "polder/polderlaw07.RelogCrash" = some f) (hfn : Tryz.pinned.checked.prog.funcs[f]? = some fn) :
    false = Tryz.pinned.checked.prog.looks [] ∧ ∀ (j : Nat) t, fn.params[j]? = some t → Tryz.pinned.checked.prog.wantsStandIn t = false := by
  obtain rfl : f = 5 := Option.some.inj ((show Tryz.prog.funcNamed "polder/polderlaw07.RelogCrash" = some 5 by kernel_rfl).symm.trans hf) |>.symm
  obtain rfl : fn = Tryz.f5 := (Option.some.inj (Tryz.func5.symm.trans hfn)).symm
  refine ⟨by kernel_rfl, fun j t ht => ?_⟩
  rw [Tryz.params5] at ht
  have hm := Array.mem_of_getElem? ht
  simp at hm
  rcases hm with rfl | rfl | rfl | rfl | rfl <;> first | exact (show Tryz.prog.wantsStandIn 45 = false by kernel_rfl) | exact (show Tryz.prog.wantsStandIn 3 = false by kernel_rfl)
theorem relogCrash_holds : Rows.RelogCrashUptoCardSaid :=
  Claim7.holds_tied_plain_at .later [] _ _ _ _ rcr_said (fun _ h => by cases h) (by kernel_rfl) (fun _ h => by cases h) relogCrashUpto_row_tie rfl ⟨rfl, rfl⟩ (by kernel_rfl) rfl rcr_plain (by kernel_rfl)
end Go.Proofs.YtbegkbjigbkljaaGreatDoor
