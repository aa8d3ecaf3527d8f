/-
  The law StoreGens holds: superblocks go on by one, epochs with each opening and switch alone. No condition.
-/
import Derived.Test.YtkobdhlkgmjhbaaGreatDoorPart4
import Derived.Test.YtkobdhlkgmjhbaaGreatDoorCards
import Derived.Test.YtkobdhlkgmjhbaaGreatDoorTie
import Derived.WalkKit
import Derived.WalkSpells
import Derived.Deep.Quiet
import Derived.KernelRfl
import Derived.IntWalk
import Derived.Maps.AppendAt
import Derived.Laws.AppendOwnNone
import Derived.Laws.CopyRow
import Derived.StillTail
import Derived.Deep.RegionHeld
import Derived.Laws.IdiomStrings
import Derived.Laws.BytesArg
import Derived.Laws.OwnMore
import Derived.Lib.Strings
import Derived.ArgAppend
import Derived.RangeFuncLeaves
import Derived.RangeFuncRecord
import Derived.RangeFuncCalls
import Derived.RangeFuncSeq
import Derived.OrdersIn
import Derived.TacticsIn
import Derived.Laws.IdiomRangeMap
import Derived.Defers
import Derived.Laws.LoneSync
import Derived.LoopN
import Derived.Test.YtkobdhlkgmjhbaaGreatDoorRows
import Derived.Test.YtkobdhlkgmjhbaaGreatDoorProg
import Derived.Shelf.Sort.Plain
import Derived.Shelf.Slices.In.SortNone
import Derived.DataReads
import Derived.ProofKit
import Derived.OpenShut
import Derived.Lib.SmallJoins
import Derived.Deep.DeepHandedRow
import Derived.Lib.LaidTab
set_option maxRecDepth 100000
set_option linter.unusedSimpArgs false
set_option linter.unusedVariables false
namespace Go.Proofs.YtkobdhlkgmjhbaaGreatDoor
def opS (x : Sup) : Sup := { x with gen := x.gen + 1, epoch := x.epoch + 1, head := 0, seq := 1 }
theorem opS_f (x : Sup) : (opS x).gen = x.gen + 1 ∧ (opS x).epoch = x.epoch + 1 ∧ (opS x).pages = x.pages ∧ (opS x).start = x.start ∧ (opS x).len = x.len ∧ (opS x).head = 0 ∧ (opS x).seq = 1 := ⟨rfl, rfl, rfl, rfl, rfl, rfl, rfl⟩
def Stops (D : Dsk) (s : Sup) (a q u : Int) : Prop := s.len ≤ u ∨ ∀ ims, ¬ nextP (stepF D s a) s.epoch q (s.len - u) ims
structure OInv (D : Dsk) (x : Sup) (B : Nat → Pg) (Gd : List Rc → Prop) : Prop where
  ok : x.Ok (D.n : Int)
  s : SOk x
  gen : 1 ≤ x.gen
  ver : ∀ i, D.ver i = []
  sup : D.dur (x.gen % 2).toNat = supS x
  oth : ∃ y : Sup, y.Ok (D.n : Int) ∧ y.gen = x.gen - 1 ∧ D.dur ((x.gen + 1) % 2).toNat = supS y
  tags : ∀ i : Nat, 2 + x.pages ≤ (i : Int) → ∀ e q, Tg (D.dur i) e q → e ≤ x.epoch
  read : ∀ (got : List Rc) (a q u : Int), Runs D x x.head x.seq 0 got a q u → Stops D x a q u → Gd got
  recs : ∀ got, Gd got → ∀ r ∈ got, (1 ≤ r.ims.length ∧ r.ims.length ≤ 40) ∧ ∀ m ∈ r.ims, m.Ok ∧ m.num < x.pages
  gd : ∀ got, Gd got → ∀ i : Nat, (i : Int) < x.pages → ov got i = none → HomeP (D.dur (2 + i)) i (B i)
theorem ov_take_le {rs : List Rc} {k m n : Nat} (hkm : k ≤ m) (h : (ov (rs.take k) n).isSome = true) : (ov (rs.take m) n).isSome = true := by
  have := ov_app_isSome ((rs.take m).drop k) _ (show (ov ((rs.take m).take k) n).isSome = true by rw [List.take_take, Nat.min_eq_left hkm]; exact h)
  rwa [List.take_append_drop] at this
theorem SInv.crashed {D D' : Dsk} {x : Sup} {B : Nat → Pg} {rs : List Rc} {ptl : List (List UInt8)} {a q u : Int} {b : Bool} {sure : Nat} (h : SInv D x B rs ptl a q u b sure) (hq : q ≤ 1099511627776) (hc : Crashed D D') : OInv D' x B (fun got => sure ≤ got.length ∧ got.length ≤ rs.length ∧ got = rs.take got.length) := by
  have hg := h.gen
  refine ⟨by rw [hc.n]; exact h.ok, h.s, hg, hc.ver, ?_, ?_, fun i hi e q' ht => h.tags hq hi (hc.dur i) ht, fun got a' q' u' hr hst => h.p.read h.s hc hq hr hst, fun got hgd r hr => ?_, fun got hgd i hi ho => ?_⟩
  · rcases hc.dur (x.gen % 2).toNat with g | g
    · rw [g]; exact h.sup.1
    · rw [h.sup.2] at g; cases g
  · obtain ⟨y, a, b, c, d⟩ := h.oth
    refine ⟨y, by rw [hc.n]; exact a, b, ?_⟩
    rcases hc.dur ((x.gen + 1) % 2).toNat with g | g
    · rw [g]; exact c
    · rw [d] at g; cases g
  · rw [hgd.2.2] at hr
    have hr2 := List.mem_of_mem_take hr
    obtain ⟨j, hj⟩ := List.getElem?_of_mem hr2
    obtain ⟨_, h2, h3⟩ := h.p.recs j r hj
    exact ⟨h2, fun m hm => ⟨h3 m hm, h.num r hr2 m hm⟩⟩
  · rcases h.home i hi _ (hc.dur _) with g | ⟨g, _⟩
    · exact g
    · have := ov_take_le hgd.1 g
      rw [← hgd.2.2, ho] at this; cases this
variable {D : Dsk} {x : Sup} {B : Nat → Pg} {Gd : List Rc → Prop}
theorem OInv.ovb (h : OInv D x B Gd) {got : List Rc} (hg : Gd got) {n : Nat} (ho : (ov got n).isSome = true) : (n : Int) < x.pages := by
  obtain ⟨p, hp⟩ := Option.isSome_iff_exists.1 ho
  obtain ⟨r, hr, m, hm, hn, _⟩ := ov_get _ got rfl hp
  have h1 := ((h.recs got hg r hr).2 m hm).2
  have h2 := h.ok.2
  omega
theorem OInv.ovok (h : OInv D x B Gd) {got : List Rc} (hg : Gd got) {n : Nat} {p : Pg} (ho : ov got n = some p) : p.Ok := by
  obtain ⟨r, hr, m, hm, _, rfl⟩ := ov_get _ got rfl ho
  exact imPg_ok ((h.recs got hg r hr).2 m hm).1
theorem OInv.opened (h : OInv D x B Gd) {got : List Rc} (hg : Gd got) {ks : List Int} (hks : KsOk (ov got) ks) (hy : (opS x).Ok (D.n : Int)) (he : x.epoch + 1 < 4294967296) :
    SInv (svD (hwD D (pgLst (ov got) ks)).fl (opS x)) (opS x) (pgMap (ov got) B) [] [] 0 1 0 false 0 := by
  have hk := h.ok.2
  have hgen := h.gen
  have hf := opS_f x
  have hss := h.s
  have hso : SOk (opS x) := ⟨by rw [hf.2.2.2.1]; exact hss.start, by have := hss.head; omega, by have := hss.epoch; omega, by omega⟩
  have hlb : ∀ y ∈ pgLst (ov got) ks, (y.1 : Int) < x.pages := fun y hy => h.ovb hg (by rw [(pgLst_mem hks y.1 y.2).1 hy]; rfl)
  have hhas : ∀ i c, Has (svD (hwD D (pgLst (ov got) ks)).fl (opS x)) i c → i ≠ ((opS x).gen % 2).toNat → c = (hwD D (pgLst (ov got) ks)).cont i := fun i c hc hi => by
    have ho := sv_out (hwD D (pgLst (ov got) ks)).fl (opS x) i hi
    unfold Has at hc
    rw [ho.1, ho.2] at hc
    rcases hc with hc | hc
    · exact hc
    · cases hc
  have hlow : ∀ i : Nat, i < 2 → (hwD D (pgLst (ov got) ks)).cont i = D.dur i := fun i hi => by
    rw [hw_cont_out _ D i (fun y _ e => by omega)]; exact cont_of (h.ver i)
  refine ⟨by show (opS x).Ok ((hwD D _).n : Int); rw [hw_n]; exact hy, ?_, hso, by omega, fun r hr => (by cases hr), fun i hi c hc => .inl ?_, sv_here _ _, ?_, fun i hi hr c hc e q' ht => ?_⟩
  · have := PInv.fresh (D := svD (hwD D (pgLst (ov got) ks)).fl (opS x)) hso (fun i h1 h2 c hc e q' ht => ?_)
    · rw [hf.2.2.2.2.2.1, hf.2.2.2.2.2.2] at this; exact this
    · have hi := hhas i c hc (by omega)
      rw [hw_cont_out _ D i (fun y hy e => by have := hlb y hy; omega), cont_of (h.ver i)] at hi
      subst hi
      have := h.tags i (by omega) e q' ht
      omega
  · have hi2 := hhas (2 + i) c hc (by omega)
    subst hi2
    unfold pgMap
    cases ho : ov got i with
    | some p =>
      have hm : (i, p) ∈ pgLst (ov got) ks := (pgLst_mem hks i p).2 ho
      rw [hw_in _ D (pgLst_nodup hks) (i, p) hm]
      exact .inr ⟨h.ovok hg ho, rfl⟩
    | none =>
      rw [hw_cont_out _ D _ (fun z hz e => by
        have := (pgLst_mem hks z.1 z.2).1 hz
        rw [show z.1 = i from by omega, ho] at this; cases this), cont_of (h.ver _)]
      exact h.gd got hg i (by omega) ho
  · refine ⟨x, by show x.Ok ((hwD D _).n : Int); rw [hw_n]; exact h.ok, by omega, ?_⟩
    have ho := sv_out (hwD D (pgLst (ov got) ks)).fl (opS x) (((opS x).gen + 1) % 2).toNat (by omega)
    refine ⟨?_, by rw [ho.2]; rfl⟩
    rw [ho.1]
    show (hwD D (pgLst (ov got) ks)).cont _ = _
    rw [hlow _ (by omega), show ((opS x).gen + 1) % 2 = x.gen % 2 from by omega]
    exact h.sup
  · have hi2 := hhas i c hc (by omega)
    rw [hw_cont_out _ D i (fun y hy e => by have := hlb y hy; omega), cont_of (h.ver i)] at hi2
    subst hi2
    have := h.tags i (by omega) e q' ht
    omega
/-! ### a formatted disk -/
def zhD (D : Dsk) : Nat → Dsk
  | 0 => D
  | k + 1 => (zhD D k).wr (2 + k) [List.replicate 256 0]
theorem zh_n (D : Dsk) : ∀ k, (zhD D k).n = D.n
  | 0 => rfl
  | k + 1 => by show ((zhD D k).wr _ _).n = _; rw [Dsk.wr_n]; exact zh_n D k
theorem zh_cont (n k i : Nat) : (zhD (newD n) k).cont i = List.replicate 256 0 := by
  induction k with
  | zero => rfl
  | succ k ih =>
    show ((zhD (newD n) k).wr _ _).cont i = _
    rw [wr_cont, ih]
    by_cases h : 2 + k ≤ i
    · rw [if_pos h]
      rcases Nat.eq_zero_or_pos (i - (2 + k)) with e | e
      · rw [e]; rfl
      · rw [List.getElem?_eq_none (by simp; omega)]; rfl
    · rw [if_neg h]; rfl
theorem zh_clean {D : Dsk} (h : Clean D) : ∀ k, Clean (zhD D k)
  | 0 => h
  | k + 1 => (zh_clean h k).wr _ _
theorem zh_len (n : Nat) (i : Nat) : ∀ k, ((zhD (newD n) k).ver i).length ≤ k
  | 0 => by simp [zhD, newD]
  | k + 1 => by
    have h1 := Dsk.wr_len (zhD (newD n) k) (2 + k) [List.replicate 256 0] i
    have h2 := zh_len n i k
    show (((zhD (newD n) k).wr _ _).ver i).length ≤ _
    omega
def fmS (p s l g : Int) : Sup := ⟨g, 1, p, s, l, 0, 1⟩
def fmD (n : Nat) (p s l : Int) : Dsk := svD (svD (zhD (newD n) p.toNat).fl (fmS p s l 1)) (fmS p s l 2)
theorem newD_clean (n : Nat) : Clean (newD n) := ⟨rfl, rfl, rfl, rfl⟩
theorem fm_clean (n : Nat) (p s l : Int) : Clean (fmD n p s l) := ((zh_clean (newD_clean n) _).fl.sv _).sv _
theorem fm_n (n : Nat) (p s l : Int) : (fmD n p s l).n = n := zh_n _ _
theorem fm_ver (n : Nat) (p s l : Int) (i : Nat) : (fmD n p s l).ver i = [] := sv_ver (sv_ver (fun _ => rfl) _) _ i
theorem fm_dur (n : Nat) (p s l : Int) (i : Nat) (hi : 2 ≤ i) : (fmD n p s l).dur i = List.replicate 256 0 := by
  have h1 := sv_out (svD (zhD (newD n) p.toNat).fl (fmS p s l 1)) (fmS p s l 2) i (by show i ≠ ((2 : Int) % 2).toNat; simp; omega)
  have h2 := sv_out (zhD (newD n) p.toNat).fl (fmS p s l 1) i (by show i ≠ ((1 : Int) % 2).toNat; simp; omega)
  exact (h1.1.trans h2.1).trans (zh_cont n _ i)
theorem fm_open {n : Nat} {p s l : Int} (hok : (fmS p s l 2).Ok (n : Int)) : OInv (fmD n p s l) (fmS p s l 2) (fun _ => noPg) (fun got => got = []) := by
  have hf : (fmS p s l 2).gen = 2 ∧ (fmS p s l 2).epoch = 1 ∧ (fmS p s l 2).pages = p ∧ (fmS p s l 2).start = s ∧ (fmS p s l 2).len = l ∧ (fmS p s l 2).head = 0 ∧ (fmS p s l 2).seq = 1 := ⟨rfl, rfl, rfl, rfl, rfl, rfl, rfl⟩
  have hg := Sup.get hok
  have hk := hok.2
  have hso : SOk (fmS p s l 2) := ⟨by omega, by omega, by omega, by omega⟩
  have hring : ∀ z : Int, (fmD n p s l).cont (ringAt (fmS p s l 2) z) = List.replicate 256 0 := fun z => by
    have := ring_in hso z
    rw [cont_of (fm_ver _ _ _ _ _)]
    exact fm_dur _ _ _ _ _ (by omega)
  refine ⟨by rw [fm_n]; exact hok, hso, by omega, fm_ver _ _ _ _, (sv_here _ _).1, ⟨fmS p s l 1, ?_, rfl, ?_⟩, fun i h1 e q ht => ?_, fun got a q u hr hst => ?_, fun got hg' r hr => ?_, fun got _ i hi _ => ?_⟩
  · rw [fm_n]
    exact Sup.ok_mk (by show 0 ≤ (1 : Int) ∧ (1 : Int) ≤ 1099511627776; omega) (by show 0 ≤ (1 : Int) ∧ (1 : Int) ≤ 1099511627776; omega) (by show 16 ≤ p ∧ p ≤ 1024; omega) (by show 2 + p ≤ s ∧ s ≤ 1099511627776; omega) (by show 64 ≤ l ∧ l ≤ 1099511627776; omega) (by show 0 ≤ (0 : Int) ∧ (0 : Int) < l; omega) (by show 0 ≤ (1 : Int) ∧ (1 : Int) ≤ 1099511627776; omega) (by show s ≤ n - l ∧ l ≤ n; omega)
  · have h1 := sv_out (svD (zhD (newD n) p.toNat).fl (fmS p s l 1)) (fmS p s l 2) 1 (by show 1 ≠ ((2 : Int) % 2).toNat; decide)
    exact h1.1.trans (sv_here (zhD (newD n) p.toNat).fl (fmS p s l 1)).1
  · rw [fm_dur _ _ _ _ _ (by omega)] at ht
    exact (zero_tag _ _ ht).elim
  · cases hr with
    | nil => rfl
    | snoc r hlt hn =>
      exfalso
      have h0 := hn.1
      have e : ∀ z, stepF (fmD n p s l) (fmS p s l 2) z 0 = List.replicate 256 0 := fun z => hring (z + ((0 : Nat) : Int))
      rw [e] at h0
      exact zero_head h0
  · subst hg'; cases hr
  · rw [fm_dur _ _ _ _ _ (by omega)]; exact .inl ⟨rfl, rfl⟩
end Go.Proofs.YtkobdhlkgmjhbaaGreatDoor
namespace Go.Proofs.YtkobdhlkgmjhbaaGreatDoor
open Go.RowKit
theorem OInv.two {D : Dsk} {x : Sup} {B : Nat → Pg} {Gd : List Rc → Prop} (h : OInv D x B Gd) : ∃ y0 y1 : Sup, y0.Ok (D.n : Int) ∧ y1.Ok (D.n : Int) ∧ y0.gen % 2 = 0 ∧ y1.gen % 2 = 1 ∧ D.cont 0 = supS y0 ∧ D.cont 1 = supS y1 ∧ x = if y0.gen < y1.gen then y1 else y0 := by
  obtain ⟨y, hy, hg, hd⟩ := h.oth
  have hs := h.sup
  have h1 := h.gen
  have c0 := cont_of (h.ver 0)
  have c1 := cont_of (h.ver 1)
  rcases (show x.gen % 2 = 0 ∨ x.gen % 2 = 1 by omega) with e | e
  · rw [show (x.gen % 2).toNat = 0 by omega] at hs
    rw [show ((x.gen + 1) % 2).toNat = 1 by omega] at hd
    exact ⟨x, y, h.ok, hy, e, by omega, c0.trans hs, c1.trans hd, by rw [if_neg (by omega)]⟩
  · rw [show (x.gen % 2).toNat = 1 by omega] at hs
    rw [show ((x.gen + 1) % 2).toNat = 0 by omega] at hd
    exact ⟨y, x, hy, h.ok, by omega, e, c0.trans hd, c1.trans hs, by rw [if_pos (by omega)]⟩
theorem opS_ok {x : Sup} {n : Int} (h : x.Ok n) (h1 : 1 ≤ x.gen) (hg : x.gen + 1 ≤ 1099511627776) (he : x.epoch + 1 ≤ 1099511627776) : (opS x).Ok n := by
  have hs := Sup.get h
  have hk := h.2
  have hf := opS_f x
  exact Sup.ok_mk (by omega) (by omega) (by omega) (by omega) (by omega) (by omega) (by omega) (by omega)
theorem ov_take_succ {rs : List Rc} {k : Nat} {r : Rc} (h : rs[k]? = some r) : ovI (ov (rs.take k)) r.ims = ov (rs.take (k + 1)) := by
  rw [List.take_add_one, h]
  exact (ov_snoc _ _).symm
theorem ovI_take_succ {f : Pgs} {ims : List Img} {k : Nat} {m : Img} (h : ims[k]? = some m) : pgSet (ovI f (ims.take k)) m.num.toNat (imPg m) = ovI f (ims.take (k + 1)) := by
  rw [List.take_add_one, h]
  exact (ovI_snoc _ _ _).symm
set_option maxHeartbeats 4000000 in
theorem sopen_c (pd : Nat) (D : Dsk) (x : Sup) (B : Nat → Pg) (Gd : List Rc → Prop) (hO : OInv D x B Gd) (hcl : Clean D) (hge : x.gen + 1 ≤ 1099511627776) (hep : x.epoch + 1 < 4294967296) : Cn Tryz.prog 9 [.pointer (some ⟨pd, 0, none⟩)] [diskA pd D] (fun v Γ => ∃ (ps pl pt md : Nat) (hq : Hp) (D2 : Dsk) (got : List Rc), Gd got ∧ SInv D2 (opS x) (pgMap (ov got) B) [] [] 0 1 0 false 0 ∧ Clean D2 ∧ D2.n = D.n ∧ (∀ i, D2.ver i = []) ∧ v = .tuple #[.pointer (some ⟨ps, 0, none⟩), .int .i64 0] ∧ Γ = [blk ps [.pointer (some ⟨pd, 0, none⟩), .pointer (some ⟨pt, 0, none⟩), .int .i64 ((opS x).gen), .int .i64 ((opS x).epoch), .int .i64 ((opS x).pages), .int .i64 ((opS x).start), .int .i64 ((opS x).len), .int .i64 ((opS x).head), .int .i64 ((opS x).seq), .pointer (some ⟨pl, 0, none⟩), .map (some md), .bool false, .map none] 67, blk pl [.pointer (some ⟨pd, 0, none⟩), .pointer (some ⟨pt, 0, none⟩), .int .i64 ((opS x).gen), .int .i64 ((opS x).epoch), .int .i64 ((opS x).pages), .int .i64 ((opS x).start), .int .i64 ((opS x).len), .int .i64 ((opS x).head), .int .i64 ((opS x).seq), .int .i64 0, .int .i64 1, .int .i64 0, .bool false, .bool (decide ((opS x).epoch < 4294967296))] 119, tblA pt, diskA pd D2, pgsA md noPgs hq, poolA hq]) := by
 intro z R w H'; have H : Sep z (diskA pd D :: R) w := H'
 clear H'; obtain ⟨y0, y1, ho0, ho1, hp0, hp1, hc0, hc1, hxy⟩ := hO.two; have hok := hO.ok
 have hsg := Sup.get hok
 have hk2 := hok.2
 have hgen := hO.gen
 have hoky : (opS x).Ok (D.n : Int) := opS_ok hok hgen (by omega) (by omega)
 have hn2d := H.says 0 rfl (fun h q => (diskA.ok q).n2)
 refine enter Tryz.func9 rfl 109 Tryz.ntmps9 rfl (k_seq (s_region (s_do rfl rfl rfl (d_assign rfl rfl) (s_do rfl rfl rfl (d_assign rfl rfl) (s_end (k_seq (k_seq (s_region (s_do rfl rfl rfl (d_move rfl rfl) (s_do rfl rfl rfl (d_eql_pn rfl (by kernel_rfl) rfl rfl) (s_end (k_false rfl (k_skip ?_))))))))))))); refine k_seq (s_region (s_do rfl rfl rfl (d_move rfl rfl) (s_C rfl rfl rfl rfl rfl (fun w => Tryz.call28 _ w) (crcnew_c ) H rfl ?_))); rintro _ w _ ⟨pt, rfl, rfl⟩ H'; have H := H'.l2; clear H'; refine s_go rfl rfl rfl (n_makeMap H rfl) ?_; rintro _ w ⟨m1, rfl, H'⟩; have H := H'.l3; clear H'; refine s_do rfl rfl rfl (d_build rfl rfl (out := [.pointer (some ⟨pd, 0, none⟩), .pointer (some ⟨pt, 0, none⟩), .int .i64 0, .int .i64 0, .int .i64 0, .int .i64 0, .int .i64 0, .int .i64 0, .int .i64 0, .pointer none, .map (some m1), .bool false, .map none]) (by kernel_rfl)) (s_go rfl rfl rfl (n_box H rfl rfl (cs := [.pointer (some ⟨pd, 0, none⟩), .pointer (some ⟨pt, 0, none⟩), .int .i64 0, .int .i64 0, .int .i64 0, .int .i64 0, .int .i64 0, .int .i64 0, .int .i64 0, .pointer none, .map (some m1), .bool false, .map none]) rfl) ?_); rintro _ w ⟨b2, rfl, H'⟩; have H := H'.l4; clear H'; refine s_do rfl rfl rfl (d_assign rfl rfl) (s_end (k_seq (s_region (s_do rfl rfl rfl (d_move rfl rfl) (s_do rfl rfl rfl (d_move rfl rfl) (s_do rfl rfl rfl (d_nilCheck rfl rfl) (s_do rfl rfl rfl (d_field rfl (k := 1) (r := 1) (by kernel_rfl) rfl rfl) (s_do rfl rfl rfl (d_load rfl rfl (by kernel_rfl) (here (H.cel 0 rfl 1 rfl))) (s_C rfl rfl rfl rfl rfl (fun w => Tryz.call30 _ w) (load_c _ _ _ hcl.f1 x y0 y1 ho0 ho1 hp0 hp1 hc0 hc1 hxy) H.f2.f3 rfl ?_)))))))))
 rintro _ w _ ⟨rfl, rfl⟩ H'; have H := H'.l4; clear H'; refine s_do rfl rfl rfl (d_move rfl rfl) (s_do rfl rfl rfl (d_extract rfl rfl rfl) (s_do rfl rfl rfl (d_extract rfl rfl rfl) (s_go rfl rfl rfl (n_alloc (P := Tryz.prog) H rfl (zs := [.int .i64 0, .int .i64 0, .int .i64 0, .int .i64 0, .int .i64 0, .int .i64 0, .int .i64 0]) (by kernel_rfl)) ?_))); rintro _ w ⟨b3, rfl, H'⟩; have H := H'.l5; clear H'; refine s_put rfl rfl (n_store 0 H rfl rfl rfl rfl (vs := [.int .i64 x.gen, .int .i64 x.epoch, .int .i64 x.pages, .int .i64 x.start, .int .i64 x.len, .int .i64 x.head, .int .i64 x.seq]) rfl (by simp [u8, u32, Value.oneCell']) (by kernel_rfl) (by simp) (out := [.int .i64 x.gen, .int .i64 x.epoch, .int .i64 x.pages, .int .i64 x.start, .int .i64 x.len, .int .i64 x.head, .int .i64 x.seq]) rfl) ?_; rintro w H'; have H := H'.l5; clear H'; refine s_do rfl rfl rfl (d_assign rfl rfl) (s_end (k_seq (k_seq (s_region (s_do rfl rfl rfl (d_move rfl rfl) (s_do rfl rfl rfl (d_neq rfl rfl rfl) (k_updA 31 (u := .bool (decide ((0 : Int) ≠ 0))) (v := .bool false) rfl (congrArg Value.bool (by decide)) (s_end (k_false rfl (k_skip (k_seq (s_region (s_do rfl rfl rfl (d_move rfl rfl) ?_))))))))))))); refine s_do rfl rfl rfl (d_loadAgg rfl rfl (vs := [.int .i64 x.gen, .int .i64 x.epoch, .int .i64 x.pages, .int .i64 x.start, .int .i64 x.len, .int .i64 x.head, .int .i64 x.seq]) (by kernel_rfl) (here ((H.blk 0 rfl).part 0 7 _ rfl))) (s_do rfl rfl rfl (d_nilCheck rfl rfl) (s_do rfl rfl rfl (d_field rfl (k := 2) (r := 2) (by kernel_rfl) rfl rfl) (s_put rfl rfl (n_store 3 H rfl rfl rfl rfl (vs := [.int .i64 x.gen, .int .i64 x.epoch, .int .i64 x.pages, .int .i64 x.start, .int .i64 x.len, .int .i64 x.head, .int .i64 x.seq]) rfl (by simp [u8, u32, Value.oneCell']) (by kernel_rfl) (by simp) (out := [.pointer (some ⟨pd, 0, none⟩), .pointer (some ⟨pt, 0, none⟩), .int .i64 x.gen, .int .i64 x.epoch, .int .i64 x.pages, .int .i64 x.start, .int .i64 x.len, .int .i64 x.head, .int .i64 x.seq, .pointer none, .map (some m1), .bool false, .map none]) rfl) ?_)))
 rintro w H'; have H := H'.l5; clear H'; refine s_end (k_seq ?_); replace H := H.f3; refine a_region (Sep z (blk b2 [.pointer (some ⟨pd, 0, none⟩), .pointer (some ⟨pt, 0, none⟩), .int .i64 x.gen, .int .i64 x.epoch, .int .i64 x.pages, .int .i64 x.start, .int .i64 x.len, .int .i64 x.head, .int .i64 x.seq, .pointer none, .map (some m1), .bool false, .map none] 67 :: blk b3 [.int .i64 x.gen, .int .i64 x.epoch, .int .i64 x.pages, .int .i64 x.start, .int .i64 x.len, .int .i64 x.head, .int .i64 x.seq] 49 :: R)) 14 rfl (by kernel_rfl) (fun w' x' _ => ?_); have H' := H.ext0 x'; clear x' H; revert H'; generalize w' = w; intro H'
 have H := H'.l5; clear H'; refine a_do 0 rfl (by kernel_rfl) (by kernel_rfl) (by kernel_rfl) rfl rfl rfl (d_move rfl rfl) (H.pick 5 [0, 1] rfl) (a_do 1 rfl (by kernel_rfl) (by kernel_rfl) (by kernel_rfl) rfl rfl rfl (d_move rfl rfl) (H.pick 5 [0, 1] rfl) (a_do 2 rfl (by kernel_rfl) (by kernel_rfl) (by kernel_rfl) rfl rfl rfl (d_nilCheck rfl rfl) (H.pick 5 [0, 1] rfl) (a_do 3 rfl (by kernel_rfl) (by kernel_rfl) (by kernel_rfl) rfl rfl rfl (d_field rfl (k := 1) (r := 1) (by kernel_rfl) rfl rfl) (H.pick 5 [0, 1] rfl) (a_do 4 rfl (by kernel_rfl) (by kernel_rfl) (by kernel_rfl) rfl rfl rfl (d_load rfl rfl (by kernel_rfl) (fun _ hx => hx.cel 0 rfl 1 rfl)) (H.pick 5 [0, 1] rfl) (a_do 5 rfl (by kernel_rfl) (by kernel_rfl) (by kernel_rfl) rfl rfl rfl (d_loadAgg rfl rfl (vs := [.int .i64 x.gen, .int .i64 x.epoch, .int .i64 x.pages, .int .i64 x.start, .int .i64 x.len, .int .i64 x.head, .int .i64 x.seq]) (by kernel_rfl) (fun _ hx => (hx.blk 1 rfl).part 0 7 _ rfl)) (H.pick 5 [0, 1] rfl) (a_all [6] (by kernel_rfl) (by simp) (all1 (o_C rfl rfl rfl rfl rfl rfl (fun w => Tryz.call31 _ w) (open_c _ _ x _ hok hcl.f1) H.f2.f3 rfl ?_)))))))); rintro _ w _ ⟨pl5, rs5, a5, q5, u5, v5, hq5, rfl, hruns5, hstop5, hrecs5, rfl⟩ H'; have H := H'.l7; clear H'; obtain ⟨ao2, c2, rfl⟩ := hrecs5.slc; obtain ⟨es2, hes2, hrd2, hok2⟩ := hrecs5; have hel2 : es2.length = rs5.length := by rw [← hes2]; simp
 have hgd := hO.read rs5 a5 q5 u5 hruns5 hstop5
 have hrc := hO.recs rs5 hgd
 have hsm2 := hrd2.small
 have hfbb : ∀ n, (ov rs5 n).isSome = true → n < 1024 := fun n h => by have := hO.ovb hgd h; omega
 have hfnn : ∀ n, (ov rs5 n).isSome = true → 2 + n < D.n := fun n h => by have := hO.ovb hgd h; omega
 have H : Sep z (poolA hq5 :: blk pl5 [.pointer (some ⟨pd, 0, none⟩), .pointer (some ⟨pt, 0, none⟩), .int .i64 x.gen, .int .i64 x.epoch, .int .i64 x.pages, .int .i64 x.start, .int .i64 x.len, .int .i64 x.head, .int .i64 x.seq, .int .i64 a5, .int .i64 q5, .int .i64 u5, .bool false, .bool (decide (x.epoch < 4294967296))] 119 :: tblA pt :: diskA pd D :: blk b2 [.pointer (some ⟨pd, 0, none⟩), .pointer (some ⟨pt, 0, none⟩), .int .i64 x.gen, .int .i64 x.epoch, .int .i64 x.pages, .int .i64 x.start, .int .i64 x.len, .int .i64 x.head, .int .i64 x.seq, .pointer none, .map (some m1), .bool false, .map none] 67 :: blk b3 [.int .i64 x.gen, .int .i64 x.epoch, .int .i64 x.pages, .int .i64 x.start, .int .i64 x.len, .int .i64 x.head, .int .i64 x.seq] 49 :: mapB m1 ([]) 0 :: R) w := H
 refine a_and (H.pick 7 [4, 5] rfl) (a_do 7 rfl (by kernel_rfl) (by kernel_rfl) (by kernel_rfl) rfl rfl rfl (d_move rfl rfl) (H.pick 7 [4, 5] rfl) (a_do 8 rfl (by kernel_rfl) (by kernel_rfl) (by kernel_rfl) rfl rfl rfl (d_extract rfl rfl rfl) (H.pick 7 [4, 5] rfl) (a_do 9 rfl (by kernel_rfl) (by kernel_rfl) (by kernel_rfl) rfl rfl rfl (d_extract rfl rfl rfl) (H.pick 7 [4, 5] rfl) (a_do 10 rfl (by kernel_rfl) (by kernel_rfl) (by kernel_rfl) rfl rfl rfl (d_extract rfl rfl rfl) (H.pick 7 [4, 5] rfl) (a_do 11 rfl (by kernel_rfl) (by kernel_rfl) (by kernel_rfl) rfl rfl rfl (d_assign rfl rfl) (H.pick 7 [4, 5] rfl) (a_do 12 rfl (by kernel_rfl) (by kernel_rfl) (by kernel_rfl) rfl rfl rfl (d_assign rfl rfl) (H.pick 7 [4, 5] rfl) (a_do 13 rfl (by kernel_rfl) (by kernel_rfl) (by kernel_rfl) rfl rfl rfl (d_assign rfl rfl) (H.pick 7 [4, 5] rfl) (a_done (by kernel_rfl) (k_seq (k_seq (s_region (s_do rfl rfl rfl (d_move rfl rfl) (s_do rfl rfl rfl (d_neq rfl rfl rfl) ?_))))))))))))); refine k_updA 49 (u := .bool (decide ((0 : Int) ≠ 0))) (v := .bool false) rfl (congrArg Value.bool (by decide)) (s_end (k_false rfl (k_skip (k_seq (s_region (s_do rfl rfl rfl (d_field rfl (k := 0) (r := 0) (by kernel_rfl) rfl rfl) (s_do rfl rfl rfl (d_load rfl rfl (by kernel_rfl) (here (H.cel 5 rfl 0 rfl))) (s_do rfl rfl rfl (d_add64 rfl rfl rfl (r := x.gen + 1) (by omega) (by omega)) (s_do rfl rfl rfl (d_field rfl (k := 0) (r := 0) (by kernel_rfl) rfl rfl) (s_put rfl rfl (n_store 5 H rfl rfl rfl rfl (vs := [.int .i64 (x.gen + 1)]) rfl (by simp [u8, u32, Value.oneCell']) (by kernel_rfl) (by simp) (out := [.int .i64 (x.gen + 1), .int .i64 x.epoch, .int .i64 x.pages, .int .i64 x.start, .int .i64 x.len, .int .i64 x.head, .int .i64 x.seq]) rfl) ?_))))))))))
 rintro w H'; have H := H'.l7; clear H'; refine s_end (k_seq (s_region (s_do rfl rfl rfl (d_field rfl (k := 1) (r := 1) (by kernel_rfl) rfl rfl) (s_do rfl rfl rfl (d_load rfl rfl (by kernel_rfl) (here (H.cel 5 rfl 1 rfl))) (s_do rfl rfl rfl (d_add64 rfl rfl rfl (r := x.epoch + 1) (by omega) (by omega)) (s_do rfl rfl rfl (d_field rfl (k := 1) (r := 1) (by kernel_rfl) rfl rfl) (s_put rfl rfl (n_store 5 H rfl rfl rfl rfl (vs := [.int .i64 (x.epoch + 1)]) rfl (by simp [u8, u32, Value.oneCell']) (by kernel_rfl) (by simp) (out := [.int .i64 (x.gen + 1), .int .i64 (x.epoch + 1), .int .i64 x.pages, .int .i64 x.start, .int .i64 x.len, .int .i64 x.head, .int .i64 x.seq]) rfl) ?_))))))); rintro w H'; have H := H'.l7; clear H'; refine s_end (k_seq (k_seq (s_region (s_do rfl rfl rfl (d_field rfl (k := 0) (r := 0) (by kernel_rfl) rfl rfl) (s_do rfl rfl rfl (d_load rfl rfl (by kernel_rfl) (here (H.cel 5 rfl 0 rfl))) (s_do rfl rfl rfl (d_gtr rfl rfl rfl) (s_do rfl rfl rfl (d_move rfl rfl) (s_part 62 rfl (fun h1 => ?_) (fun h1 => ?_)))))))))
 ·(exfalso; omega)
 ·refine s_do rfl rfl rfl (d_field rfl (k := 1) (r := 1) (by kernel_rfl) rfl rfl) (s_do rfl rfl rfl (d_load rfl rfl (by kernel_rfl) (here (H.cel 5 rfl 1 rfl))) (s_do rfl rfl rfl (d_gtr rfl rfl rfl) (s_do rfl rfl rfl (d_pick_f rfl rfl rfl) (s_end (k_dec rfl (fun h2 => ?_) (fun h2 => ?_))))))
  ·(exfalso; omega)
  ·refine k_skip (k_seq (k_seq (s_region (s_do rfl rfl rfl (d_move rfl rfl) (s_do rfl rfl rfl (d_len rfl (z := 2) (by kernel_rfl) rfl) (s_do rfl rfl rfl (d_move rfl rfl) (s_end (k_block ?_)))))))); refine c_loop (σ := Nat × List PgE × Nat) (fun ⟨k, es, cl⟩ => [(69, .int .i64 (k : Int)), (0, .pointer (some ⟨pd, 0, none⟩)), (2, .pointer none), (3, .int .i64 0), (4, .pointer (some ⟨b2, 0, none⟩)), (5, .pointer (some ⟨b3, 0, none⟩)), (67, .slice ao2 rs5.length c2), (68, .int .i64 (rs5.length : Int))])
     (fun ⟨k, es, cl⟩ w => Sep z (poolA hq5 :: blk pl5 [.pointer (some ⟨pd, 0, none⟩), .pointer (some ⟨pt, 0, none⟩), .int .i64 x.gen, .int .i64 x.epoch, .int .i64 x.pages, .int .i64 x.start, .int .i64 x.len, .int .i64 x.head, .int .i64 x.seq, .int .i64 a5, .int .i64 q5, .int .i64 u5, .bool false, .bool (decide (x.epoch < 4294967296))] 119 :: tblA pt :: diskA pd D :: blk b2 [.pointer (some ⟨pd, 0, none⟩), .pointer (some ⟨pt, 0, none⟩), .int .i64 x.gen, .int .i64 x.epoch, .int .i64 x.pages, .int .i64 x.start, .int .i64 x.len, .int .i64 x.head, .int .i64 x.seq, .pointer none, .map (some m1), .bool false, .map none] 67 :: blk b3 [.int .i64 (x.gen + 1), .int .i64 (x.epoch + 1), .int .i64 x.pages, .int .i64 x.start, .int .i64 x.len, .int .i64 x.head, .int .i64 x.seq] 49 :: mapB m1 (es.map PgE.ie) cl :: R) w ∧ (k ≤ rs5.length ∧ PgsIn (ov (rs5.take k)) es cl hq5)) (fun ⟨k, es, cl⟩ => rs5.length - k) ⟨0, [], 0⟩
     (fun _ hF => (hF.cons (hF.cons (hF.cons (hF.cons (hF.cons (hF.cons (hF.cons (hF.cons hF.nil 68 _ _ rfl rfl) 67 _ _ rfl rfl) 5 _ _ rfl rfl) 4 _ _ rfl rfl) 3 _ _ rfl rfl) 2 _ _ rfl rfl) 0 _ _ rfl rfl) 69 _ _ rfl (by go_num))) ⟨H, by omega, PgsIn.none _ _⟩ ?_
   clear H; rintro ⟨k, es, cl⟩ w ⟨H', hI⟩; dsimp only at hI H' ⊢
   have H := H'.l7; clear H'; obtain ⟨hkr, hpgo⟩ := hI; refine k_seq (s_region (s_do rfl rfl rfl (d_lss rfl rfl rfl) (s_end (k_seq (k_dec rfl (fun h3 => ?_) (fun h3 => ?_))))))
   ·refine k_skip (k_seq (k_block (k_seq (s_region ?_)))); obtain ⟨⟨rc, w1⟩, hg1⟩ : ∃ e : RcE, es2[k]? = some e := ⟨_, List.getElem?_eq_getElem (by omega)⟩; have hrk : rs5[k]? = some rc := by rw [← hes2]; simp [hg1]
    obtain ⟨is1, hs1, hri1, hki1⟩ := hok2 _ (List.mem_of_getElem? hg1); dsimp only at hs1 hri1
    obtain ⟨ao3, c3, rfl⟩ := hri1.slc; have hil1 : is1.length = rc.ims.length := by rw [← hs1]; simp
    have hsm3 := hri1.small
    have hrcm := hrc _ (List.mem_of_getElem? hrk)
    have hat1 := (H.rd 0 rfl (fun h q => hrd2.le q)).at (rcC_get hg1 0 _ rfl)
    refine s_do rfl rfl rfl (d_indexE rfl (z := 2) (j := k) (r := k * 2) (by kernel_rfl) rfl rfl rfl (by omega) hat1 (by omega)) (s_do rfl rfl rfl (d_loadAggE rfl rfl (vs := [.int .i64 rc.seq, .slice ao3 rc.ims.length c3]) (by kernel_rfl) (by simp) (here (fun k u hk => (H.rd 0 rfl (fun h q => hrd2.le q)).at (rcC_get hg1 k u hk)))) (s_go rfl rfl rfl (n_alloc (P := Tryz.prog) H rfl (zs := [.int .i64 0, .slice none 0 0]) (by kernel_rfl)) ?_)); rintro _ w ⟨b4, rfl, H'⟩; have H := H'.l8; clear H'; refine s_put rfl rfl (n_store 0 H rfl rfl rfl rfl (vs := [.int .i64 rc.seq, .slice ao3 rc.ims.length c3]) rfl (by simp [u8, u32, Value.oneCell']) (by kernel_rfl) (by simp) (out := [.int .i64 rc.seq, .slice ao3 rc.ims.length c3]) rfl) ?_; rintro w H'; have H := H'.l8; clear H'; refine s_end (k_seq (s_region (s_do rfl rfl rfl (d_field rfl (k := 1) (r := 1) (by kernel_rfl) rfl rfl) (s_do rfl rfl rfl (d_load rfl rfl (by kernel_rfl) (here (H.cel 0 rfl 1 rfl))) (s_do rfl rfl rfl (d_len rfl (z := 3) (by kernel_rfl) rfl) (s_do rfl rfl rfl (d_move rfl rfl) (s_end (k_block ?_)))))))); refine c_loop (σ := Nat × List PgE × Nat) (fun ⟨j, ei, ci⟩ => [(76, .int .i64 (j : Int)), (0, .pointer (some ⟨pd, 0, none⟩)), (2, .pointer none), (3, .int .i64 0), (4, .pointer (some ⟨b2, 0, none⟩)), (5, .pointer (some ⟨b3, 0, none⟩)), (10, .pointer (some ⟨b4, 0, none⟩)), (67, .slice ao2 rs5.length c2), (68, .int .i64 (rs5.length : Int)), (69, .int .i64 (k : Int)), (70, .bool (decide ((k : Int) < (rs5.length : Int)))), (71, eptr ao2 (k * 2)), (72, .agg #[.int .i64 rc.seq, .slice ao3 rc.ims.length c3]), (73, .pointer (some ⟨b4, 1, none⟩)), (74, .slice ao3 rc.ims.length c3), (75, .int .i64 (rc.ims.length : Int))])
      (fun ⟨j, ei, ci⟩ w => Sep z (blk b4 [.int .i64 rc.seq, .slice ao3 rc.ims.length c3] 75 :: poolA hq5 :: blk pl5 [.pointer (some ⟨pd, 0, none⟩), .pointer (some ⟨pt, 0, none⟩), .int .i64 x.gen, .int .i64 x.epoch, .int .i64 x.pages, .int .i64 x.start, .int .i64 x.len, .int .i64 x.head, .int .i64 x.seq, .int .i64 a5, .int .i64 q5, .int .i64 u5, .bool false, .bool (decide (x.epoch < 4294967296))] 119 :: tblA pt :: diskA pd D :: blk b2 [.pointer (some ⟨pd, 0, none⟩), .pointer (some ⟨pt, 0, none⟩), .int .i64 x.gen, .int .i64 x.epoch, .int .i64 x.pages, .int .i64 x.start, .int .i64 x.len, .int .i64 x.head, .int .i64 x.seq, .pointer none, .map (some m1), .bool false, .map none] 67 :: blk b3 [.int .i64 (x.gen + 1), .int .i64 (x.epoch + 1), .int .i64 x.pages, .int .i64 x.start, .int .i64 x.len, .int .i64 x.head, .int .i64 x.seq] 49 :: mapB m1 (ei.map PgE.ie) ci :: R) w ∧ (j ≤ rc.ims.length ∧ PgsIn (ovI (ov (rs5.take k)) (rc.ims.take j)) ei ci hq5)) (fun ⟨j, ei, ci⟩ => rc.ims.length - j) ⟨0, es, cl⟩
      (fun _ hF => (hF.cons (hF.cons (hF.cons (hF.cons (hF.cons (hF.cons (hF.cons (hF.cons (hF.cons (hF.cons (hF.cons (hF.cons (hF.cons (hF.cons (hF.cons (hF.cons hF.nil 75 _ _ rfl rfl) 74 _ _ rfl rfl) 73 _ _ rfl rfl) 72 _ _ rfl rfl) 71 _ _ rfl rfl) 70 _ _ rfl rfl) 69 _ _ rfl rfl) 68 _ _ rfl rfl) 67 _ _ rfl rfl) 10 _ _ rfl rfl) 5 _ _ rfl rfl) 4 _ _ rfl rfl) 3 _ _ rfl rfl) 2 _ _ rfl rfl) 0 _ _ rfl rfl) 76 _ _ rfl (by go_num))) ⟨H, by omega, hpgo⟩ ?_
    clear H; rintro ⟨j, ei, ci⟩ w ⟨H', hI⟩; dsimp only at hI H' ⊢
    have H := H'.l8; clear H'; obtain ⟨hjr, hpg⟩ := hI; refine k_seq (s_region (s_do rfl rfl rfl (d_lss rfl rfl rfl) (s_end (k_seq (k_dec rfl (fun h4 => ?_) (fun h4 => ?_))))))
    ·refine k_skip (k_seq (k_block (k_seq (s_region ?_)))); obtain ⟨⟨⟨inum, ikd, ibd⟩, u1⟩, hgi1⟩ : ∃ e : ImE, is1[j]? = some e := ⟨_, List.getElem?_eq_getElem (by omega)⟩; have him : rc.ims[j]? = some ⟨inum, ikd, ibd⟩ := by rw [← hs1]; simp [hgi1]
     obtain ⟨⟨him1, him2⟩, him3, him4⟩ := (hrcm.2 _ (List.mem_of_getElem? him)).1; dsimp only at him1 him2 him3 him4
     obtain ⟨n, rfl⟩ : ∃ n : Nat, inum = (n : Int) := ⟨inum.toNat, by omega⟩; have hb1 := hki1 _ (List.mem_of_getElem? hgi1)
     dsimp only at hb1
     rw [him4] at hb1; have su1 := hb1.slc
     have hat3 := (H.rd 1 rfl (fun h q => hri1.le q)).at (imC_get hgi1 0 _ rfl)
     obtain ⟨es4, hpm, hpg4, _⟩ := hpg.put (k := n) (p := ⟨ikd, ibd⟩) (v := u1) ⟨him3, him4⟩ hb1; refine s_do rfl rfl rfl (d_indexE rfl (z := 3) (j := j) (r := j * 3) (by kernel_rfl) rfl rfl rfl (by omega) hat3 (by omega)) (s_do rfl rfl rfl (d_loadAggE rfl rfl (vs := [.int .i64 (n : Int), .int .i64 ikd, u1]) (by kernel_rfl) (by simp) (here (fun k u hk => (H.rd 1 rfl (fun h q => hri1.le q)).at (imC_get hgi1 k u hk)))) (s_go rfl rfl rfl (n_alloc (P := Tryz.prog) H rfl (zs := [.int .i64 0, .int .i64 0, .slice none 0 0]) (by kernel_rfl)) ?_)); rintro _ w ⟨b5, rfl, H'⟩; have H := H'.l9; clear H'; refine s_put rfl rfl (n_store 0 H rfl rfl rfl rfl (vs := [.int .i64 (n : Int), .int .i64 ikd, u1]) rfl (one_cons rfl (one_cons rfl (one_cons su1.one one_nil))) (by kernel_rfl) (by simp) (out := [.int .i64 (n : Int), .int .i64 ikd, u1]) rfl) ?_; rintro w H'; have H := H'.l9; clear H'; refine s_end ?_; replace H := H.f6; refine a_region (Sep z (blk b2 [.pointer (some ⟨pd, 0, none⟩), .pointer (some ⟨pt, 0, none⟩), .int .i64 x.gen, .int .i64 x.epoch, .int .i64 x.pages, .int .i64 x.start, .int .i64 x.len, .int .i64 x.head, .int .i64 x.seq, .pointer none, .map (some m1), .bool false, .map none] 67 :: blk b5 [.int .i64 (n : Int), .int .i64 ikd, u1] 77 :: R)) 9 rfl (by kernel_rfl) (fun w' x' _ => ?_); have H' := H.ext0 x'; clear x' H; revert H'; generalize w' = w; intro H'
     have H := H'.l9; clear H'; refine a_do 0 rfl (by kernel_rfl) (by kernel_rfl) (by kernel_rfl) rfl rfl rfl (d_move rfl rfl) (H.pick 9 [0, 1] rfl) (a_do 1 rfl (by kernel_rfl) (by kernel_rfl) (by kernel_rfl) rfl rfl rfl (d_nilCheck rfl rfl) (H.pick 9 [0, 1] rfl) (a_do 2 rfl (by kernel_rfl) (by kernel_rfl) (by kernel_rfl) rfl rfl rfl (d_field rfl (k := 10) (r := 10) (by kernel_rfl) rfl rfl) (H.pick 9 [0, 1] rfl) (a_do 3 rfl (by kernel_rfl) (by kernel_rfl) (by kernel_rfl) rfl rfl rfl (d_load rfl rfl (by kernel_rfl) (fun _ hx => hx.cel 0 rfl 10 rfl)) (H.pick 9 [0, 1] rfl) (a_do 4 rfl (by kernel_rfl) (by kernel_rfl) (by kernel_rfl) rfl rfl rfl (d_field rfl (k := 0) (r := 0) (by kernel_rfl) rfl rfl) (H.pick 9 [0, 1] rfl) (a_do 5 rfl (by kernel_rfl) (by kernel_rfl) (by kernel_rfl) rfl rfl rfl (d_load rfl rfl (by kernel_rfl) (fun _ hx => hx.cel 1 rfl 0 rfl)) (H.pick 9 [0, 1] rfl) (a_do 6 rfl (by kernel_rfl) (by kernel_rfl) (by kernel_rfl) rfl rfl rfl (d_field rfl (k := 1) (r := 1) (by kernel_rfl) rfl rfl) (H.pick 9 [0, 1] rfl) (a_do 7 rfl (by kernel_rfl) (by kernel_rfl) (by kernel_rfl) rfl rfl rfl (d_loadAgg rfl rfl (vs := [.int .i64 ikd, u1]) (by kernel_rfl) (fun _ hx => (hx.blk 1 rfl).part 1 2 _ rfl)) (H.pick 9 [0, 1] rfl) (a_all [8] (by kernel_rfl) (by simp) (all1 (o_put rfl rfl rfl (n_mapUpdate 8 (e := 40) H rfl rfl (by kernel_rfl) rfl rfl rfl) ?_)))))))))); rintro w H'; have H := H'.l9; clear H'; refine a_and (H.pick 9 [0, 1] rfl) (a_done (by kernel_rfl) ?_); rw [hpm] at H; have H : Sep z (blk b2 [.pointer (some ⟨pd, 0, none⟩), .pointer (some ⟨pt, 0, none⟩), .int .i64 x.gen, .int .i64 x.epoch, .int .i64 x.pages, .int .i64 x.start, .int .i64 x.len, .int .i64 x.head, .int .i64 x.seq, .pointer none, .map (some m1), .bool false, .map none] 67 :: blk b5 [.int .i64 (n : Int), .int .i64 ikd, u1] 77 :: blk b4 [.int .i64 rc.seq, .slice ao3 rc.ims.length c3] 75 :: poolA hq5 :: blk pl5 [.pointer (some ⟨pd, 0, none⟩), .pointer (some ⟨pt, 0, none⟩), .int .i64 x.gen, .int .i64 x.epoch, .int .i64 x.pages, .int .i64 x.start, .int .i64 x.len, .int .i64 x.head, .int .i64 x.seq, .int .i64 a5, .int .i64 q5, .int .i64 u5, .bool false, .bool (decide (x.epoch < 4294967296))] 119 :: tblA pt :: diskA pd D :: blk b3 [.int .i64 (x.gen + 1), .int .i64 (x.epoch + 1), .int .i64 x.pages, .int .i64 x.start, .int .i64 x.len, .int .i64 x.head, .int .i64 x.seq] 49 :: mapB m1 (es4.map PgE.ie) (putC (ei.map PgE.ie) (n : Int) ci) :: R) w := H
     refine s_region (s_do rfl rfl rfl (d_add64 rfl rfl rfl (r := (j : Int) + 1) (by omega) (by omega)) (s_do rfl rfl rfl (d_move rfl rfl) (s_end ?_))); replace H := H.f1.d.f7.f7.f2.f7.f7.f7.f7.f7; intro _ hF; refine ⟨⟨j + 1, es4, putC (ei.map PgE.ie) (n : Int) ci⟩, (hF.cons (hF.cons (hF.cons (hF.cons (hF.cons (hF.cons (hF.cons (hF.cons (hF.cons (hF.cons (hF.cons (hF.cons (hF.cons (hF.cons (hF.cons (hF.cons hF.nil 75 _ _ rfl rfl) 74 _ _ rfl rfl) 73 _ _ rfl rfl) 72 _ _ rfl rfl) 71 _ _ rfl rfl) 70 _ _ rfl rfl) 69 _ _ rfl rfl) 68 _ _ rfl rfl) 67 _ _ rfl rfl) 10 _ _ rfl rfl) 5 _ _ rfl rfl) 4 _ _ rfl rfl) 3 _ _ rfl rfl) 2 _ _ rfl rfl) 0 _ _ rfl rfl) 76 _ _ rfl (by go_num)), ⟨H, ?_⟩, ?_⟩
     ·dsimp only
      exact ⟨by omega, (ovI_take_succ him) ▸ hpg4⟩
     ·(dsimp only; omega)
    ·obtain rfl : j = rc.ims.length := by omega
     refine k_exit (k_here (s_region (s_do rfl rfl rfl (d_add64 rfl rfl rfl (r := (k : Int) + 1) (by omega) (by omega)) (s_do rfl rfl rfl (d_move rfl rfl) (s_end ?_))))); replace H := H.d; intro _ hF; refine ⟨⟨k + 1, ei, ci⟩, (hF.cons (hF.cons (hF.cons (hF.cons (hF.cons (hF.cons (hF.cons (hF.cons hF.nil 68 _ _ rfl rfl) 67 _ _ rfl rfl) 5 _ _ rfl rfl) 4 _ _ rfl rfl) 3 _ _ rfl rfl) 2 _ _ rfl rfl) 0 _ _ rfl rfl) 69 _ _ rfl (by go_num)), ⟨H, ?_⟩, ?_⟩
     ·dsimp only
      rw [List.take_of_length_le (Nat.le_refl _), ov_take_succ hrk] at hpg; exact ⟨by omega, hpg⟩
     ·(dsimp only; omega)
   ·obtain rfl : k = rs5.length := by omega
    have hpg := hpgo
    rw [List.take_of_length_le (Nat.le_refl _)] at hpg; refine k_exit (k_here (k_seq (s_region (s_do rfl rfl rfl (d_field rfl (k := 5) (r := 5) (by kernel_rfl) rfl rfl) (s_put rfl rfl (n_store 5 H rfl rfl rfl rfl (vs := [.int .i64 0]) rfl (by simp [u8, u32, Value.oneCell']) (by kernel_rfl) (by simp) (out := [.int .i64 (x.gen + 1), .int .i64 (x.epoch + 1), .int .i64 x.pages, .int .i64 x.start, .int .i64 x.len, .int .i64 0, .int .i64 x.seq]) rfl) ?_))))); rintro w H'; have H := H'.l7; clear H'; refine s_do rfl rfl rfl (d_field rfl (k := 6) (r := 6) (by kernel_rfl) rfl rfl) (s_put rfl rfl (n_store 5 H rfl rfl rfl rfl (vs := [.int .i64 1]) rfl (by simp [u8, u32, Value.oneCell']) (by kernel_rfl) (by simp) (out := [.int .i64 (x.gen + 1), .int .i64 (x.epoch + 1), .int .i64 x.pages, .int .i64 x.start, .int .i64 x.len, .int .i64 0, .int .i64 1]) rfl) ?_); rintro w H'; have H := H'.l7; clear H'; refine s_end (k_seq (k_seq (s_region (s_do rfl rfl rfl (d_move rfl rfl) (s_do rfl rfl rfl (d_loadAgg rfl rfl (vs := [.int .i64 (x.gen + 1), .int .i64 (x.epoch + 1), .int .i64 x.pages, .int .i64 x.start, .int .i64 x.len, .int .i64 0, .int .i64 1]) (by kernel_rfl) (here ((H.blk 5 rfl).part 0 7 _ rfl))) ?_))))); have H' := H.toPgs 6 rfl hpg
    have H := H'.l7; clear H'; refine s_C rfl rfl rfl rfl rfl (fun w => Tryz.call32 _ w) (settle2_c _ _ _ _ _ _ _ _ (ov rs5) _ (opS x) D hfbb hfnn hoky (fun i => by rw [hO.ver]; simp)) H.f6.f4.f4.f5 rfl ?_; rintro _ w _ (⟨ks, hks, rfl, rfl⟩ | ⟨ks, c, D2, hks, hcne, hsf, rfl, rfl⟩) H'
    ·have H := H'.l7; clear H'; refine s_do rfl rfl rfl (d_assign rfl rfl) (s_end (k_seq (s_region (s_do rfl rfl rfl (d_move rfl rfl) (s_do rfl rfl rfl (d_neq rfl rfl rfl) (k_updA 96 (u := .bool (decide ((0 : Int) ≠ 0))) (v := .bool false) rfl (congrArg Value.bool (by decide)) (s_end (k_false rfl (k_skip (k_seq ?_)))))))))); replace H := H.f6.f1; refine l_region (Sep z (blk b2 [.pointer (some ⟨pd, 0, none⟩), .pointer (some ⟨pt, 0, none⟩), .int .i64 ((opS x).gen), .int .i64 ((opS x).epoch), .int .i64 ((opS x).pages), .int .i64 ((opS x).start), .int .i64 ((opS x).len), .int .i64 ((opS x).head), .int .i64 ((opS x).seq), .pointer none, .map (some m1), .bool false, .map none] 67 :: blk b3 [.int .i64 (x.gen + 1), .int .i64 (x.epoch + 1), .int .i64 x.pages, .int .i64 x.start, .int .i64 x.len, .int .i64 0, .int .i64 1] 49 :: R)) 11 rfl (by kernel_rfl) (fun w' x' _ => ?_); have H' := H.ext0 x'; clear x' H; revert H'; generalize w' = w; intro H'
     have H := H'.l7; clear H'; refine l_do 0 (by kernel_rfl) rfl rfl (by kernel_rfl) (by kernel_rfl) (by kernel_rfl) rfl rfl rfl (d_move rfl rfl) (H.pick 7 [0, 1] rfl) (l_do 1 (by kernel_rfl) rfl rfl (by kernel_rfl) (by kernel_rfl) (by kernel_rfl) rfl rfl rfl (d_move rfl rfl) (H.pick 7 [0, 1] rfl) (l_do 2 (by kernel_rfl) rfl rfl (by kernel_rfl) (by kernel_rfl) (by kernel_rfl) rfl rfl rfl (d_move rfl rfl) (H.pick 7 [0, 1] rfl) (l_do 3 (by kernel_rfl) rfl rfl (by kernel_rfl) (by kernel_rfl) (by kernel_rfl) rfl rfl rfl (d_nilCheck rfl rfl) (H.pick 7 [0, 1] rfl) (l_do 4 (by kernel_rfl) rfl rfl (by kernel_rfl) (by kernel_rfl) (by kernel_rfl) rfl rfl rfl (d_field rfl (k := 1) (r := 1) (by kernel_rfl) rfl rfl) (H.pick 7 [0, 1] rfl) (l_do 5 (by kernel_rfl) rfl rfl (by kernel_rfl) (by kernel_rfl) (by kernel_rfl) rfl rfl rfl (d_load rfl rfl (by kernel_rfl) (fun _ hx => hx.cel 0 rfl 1 rfl)) (H.pick 7 [0, 1] rfl) (l_do 6 (by kernel_rfl) rfl rfl (by kernel_rfl) (by kernel_rfl) (by kernel_rfl) rfl rfl rfl (d_loadAgg rfl rfl (vs := [.int .i64 (x.gen + 1), .int .i64 (x.epoch + 1), .int .i64 x.pages, .int .i64 x.start, .int .i64 x.len, .int .i64 0, .int .i64 1]) (by kernel_rfl) (fun _ hx => (hx.blk 1 rfl).part 0 7 _ rfl)) (H.pick 7 [0, 1] rfl) (l_all [7] (by kernel_rfl) (by simp) (all1 (o_C rfl rfl rfl rfl rfl rfl (fun w => Tryz.call33 _ w) (lnewD_c _ _ _ (opS x) (by show (opS x).Ok ((hwD D _).n : Int); rw [hw_n]; exact hoky)) H.f3 rfl ?_))))))))); rintro _ w _ ⟨pl, rfl, rfl⟩ H'; have H := H'.l8; clear H'; refine l_and (fun _ => (H.pick 8 [2, 3] rfl)) (l_do 8 (by kernel_rfl) rfl rfl (by kernel_rfl) (by kernel_rfl) (by kernel_rfl) rfl rfl rfl (d_nilCheck rfl rfl) (H.pick 8 [2, 3] rfl) (l_do 9 (by kernel_rfl) rfl rfl (by kernel_rfl) (by kernel_rfl) (by kernel_rfl) rfl rfl rfl (d_field rfl (k := 9) (r := 9) (by kernel_rfl) rfl rfl) (H.pick 8 [2, 3] rfl) (l_all [10] (by kernel_rfl) (by simp) (all1 (o_put rfl rfl rfl (n_store 2 H rfl rfl rfl rfl (vs := [.pointer (some ⟨pl, 0, none⟩)]) rfl (by simp [u8, u32, Value.oneCell']) (by kernel_rfl) (by simp) (out := [.pointer (some ⟨pd, 0, none⟩), .pointer (some ⟨pt, 0, none⟩), .int .i64 ((opS x).gen), .int .i64 ((opS x).epoch), .int .i64 ((opS x).pages), .int .i64 ((opS x).start), .int .i64 ((opS x).len), .int .i64 ((opS x).head), .int .i64 ((opS x).seq), .pointer (some ⟨pl, 0, none⟩), .map (some m1), .bool false, .map none]) rfl) ?_)))))
     rintro w H'; have H := H'.l8; clear H'; refine l_and (fun h => absurd rfl h) (l_done (by kernel_rfl) (k_seq (s_region (s_do rfl rfl rfl (d_move rfl rfl) (s_do rfl rfl rfl (d_assign rfl rfl) (s_do rfl rfl rfl (d_assign rfl rfl) (s_end (k_ret (doneL rfl [.pointer (some ⟨b2, 0, none⟩), .int .i64 0] ⟨rfl, ⟨rfl, trivial⟩⟩ (v := .tuple #[.pointer (some ⟨b2, 0, none⟩), .int .i64 0]) rfl ?_))))))))); exact ⟨[blk b2 [.pointer (some ⟨pd, 0, none⟩), .pointer (some ⟨pt, 0, none⟩), .int .i64 ((opS x).gen), .int .i64 ((opS x).epoch), .int .i64 ((opS x).pages), .int .i64 ((opS x).start), .int .i64 ((opS x).len), .int .i64 ((opS x).head), .int .i64 ((opS x).seq), .pointer (some ⟨pl, 0, none⟩), .map (some m1), .bool false, .map none] 67, blk pl [.pointer (some ⟨pd, 0, none⟩), .pointer (some ⟨pt, 0, none⟩), .int .i64 ((opS x).gen), .int .i64 ((opS x).epoch), .int .i64 ((opS x).pages), .int .i64 ((opS x).start), .int .i64 ((opS x).len), .int .i64 ((opS x).head), .int .i64 ((opS x).seq), .int .i64 ((opS x).head), .int .i64 ((opS x).seq), .int .i64 0, .bool false, .bool (decide ((opS x).epoch < 4294967296))] 119, tblA pt, diskA pd (svD (hwD D (pgLst (ov rs5) ks)).fl (opS x)), pgsA m1 noPgs hq5, poolA hq5], ⟨b2, pl, _, m1, _, _, rs5, hgd, hO.opened hgd hks hoky hep, (((hcl.hw _).fl).sv _), by show (hwD _ _).n = _; exact hw_n _ _, sv_ver (fun _ => rfl) _, rfl, rfl⟩, H.perm 8 [2, 0, 4, 1, 5, 6] rfl rfl⟩
    ·exact absurd hsf hcl.setF
end Go.Proofs.YtkobdhlkgmjhbaaGreatDoor
namespace Go.Proofs.YtkobdhlkgmjhbaaGreatDoor
open Go.RowKit
theorem zh_step (n k : Nat) : wr1 (zhD (newD n) k) false ((2 : Int) + (k : Int)).toNat (List.replicate 256 0) = zhD (newD n) (k + 1) := by
  rw [show ((2 : Int) + (k : Int)).toNat = 2 + k from by omega]; rfl
theorem fm_ok1 {n : Nat} {p s l : Int} (h : (fmS p s l 2).Ok (n : Int)) : (fmS p s l 1).Ok (n : Int) := by
  have hk := h.2
  have hs := Sup.get h
  have h2 : (fmS p s l 2).pages = p ∧ (fmS p s l 2).start = s ∧ (fmS p s l 2).len = l ∧ (fmS p s l 2).head = 0 := ⟨rfl, rfl, rfl, rfl⟩
  exact Sup.ok_mk (by show 0 ≤ (1 : Int) ∧ (1 : Int) ≤ 1099511627776; omega) (by show 0 ≤ (1 : Int) ∧ (1 : Int) ≤ 1099511627776; omega) (by show 16 ≤ p ∧ p ≤ 1024; omega) (by show 2 + p ≤ s ∧ s ≤ 1099511627776; omega) (by show 64 ≤ l ∧ l ≤ 1099511627776; omega) (by show 0 ≤ (0 : Int) ∧ (0 : Int) < l; omega) (by show 0 ≤ (1 : Int) ∧ (1 : Int) ≤ 1099511627776; omega) (by show s ≤ n - l ∧ l ≤ n; omega)
theorem fm_f {n : Nat} {p s l : Int} (h : (fmS p s l 2).Ok (n : Int)) : (16 ≤ p ∧ p ≤ 1024) ∧ 2 + p ≤ s ∧ s + l ≤ n ∧ 0 ≤ l := by
  have hk := h.2
  have h2 : (fmS p s l 2).pages = p ∧ (fmS p s l 2).start = s ∧ (fmS p s l 2).len = l ∧ (fmS p s l 2).head = 0 := ⟨rfl, rfl, rfl, rfl⟩
  omega
set_option maxHeartbeats 2000000 in
theorem format_c (pd n : Nat) (p s l : Int) (hok : (fmS p s l 2).Ok (n : Int)) : Cn Tryz.prog 8 [.pointer (some ⟨pd, 0, none⟩), .int .i64 p, .int .i64 s, .int .i64 l] [diskA pd (newD n)] (fun v Γ => v = .int .i64 0 ∧ Γ = [diskA pd (fmD n p s l)]) := by
 intro z R w H'; have H : Sep z (diskA pd (newD n) :: R) w := H'
 clear H'; have hok1 : (fmS p s l 1).Ok (n : Int) := fm_ok1 hok
 have hk2 : (16 ≤ p ∧ p ≤ 1024) ∧ 2 + p ≤ s ∧ s + l ≤ n ∧ 0 ≤ l := fm_f hok
 have hn2d := H.says 0 rfl (fun h q => (diskA.ok q).n2)
 have hn3 : n ≤ 4096 := hn2d
 refine enter Tryz.func8 rfl 57 Tryz.ntmps8 rfl (k_seq (s_region (s_do rfl rfl rfl (d_assign rfl rfl) (s_end (k_seq (k_seq (s_region (s_do rfl rfl rfl (d_move rfl rfl) (s_do rfl rfl rfl (d_eql_pn rfl (by kernel_rfl) rfl rfl) (s_end (k_false rfl (k_skip (k_seq ?_))))))))))))); refine s_region (s_do rfl rfl rfl (d_move rfl rfl) (s_do rfl rfl rfl (d_move rfl rfl) (s_do rfl rfl rfl (d_move rfl rfl) (s_do rfl rfl rfl (d_build rfl rfl (out := [.int .i64 1, .int .i64 1, .int .i64 p, .int .i64 s, .int .i64 l, .int .i64 0, .int .i64 1]) (by kernel_rfl)) (s_go rfl rfl rfl (n_alloc (P := Tryz.prog) H rfl (zs := [.int .i64 0, .int .i64 0, .int .i64 0, .int .i64 0, .int .i64 0, .int .i64 0, .int .i64 0]) (by kernel_rfl)) ?_))))); rintro _ w ⟨b1, rfl, H'⟩; have H := H'.l2; clear H'; refine s_put rfl rfl (n_store 0 H rfl rfl rfl rfl (vs := [.int .i64 1, .int .i64 1, .int .i64 p, .int .i64 s, .int .i64 l, .int .i64 0, .int .i64 1]) rfl (by simp [u8, u32, Value.oneCell']) (by kernel_rfl) (by simp) (out := [.int .i64 1, .int .i64 1, .int .i64 p, .int .i64 s, .int .i64 l, .int .i64 0, .int .i64 1]) rfl) ?_; rintro w H'; have H := H'.l2; clear H'; refine s_end (k_seq (k_seq (q_region (Sep z _) (by kernel_rfl) (by kernel_rfl) H.drew (q_do rfl rfl rfl (d_loadAgg rfl rfl (vs := [.int .i64 1, .int .i64 1, .int .i64 p, .int .i64 s, .int .i64 l, .int .i64 0, .int .i64 1]) (by kernel_rfl) (fun _ hx => (hx.blk 0 rfl).part 0 7 _ rfl)) (q_do rfl rfl rfl (d_move rfl rfl) (q_call rfl rfl rfl rfl rfl (fun w => Tryz.call25 _ w) (v := .int .i64 ((newD n).n : Int)) (cq (sizeD_c _ _) (by rintro _ _ ⟨rfl, rfl⟩; exact ⟨rfl, rfl⟩) 2 [1, 0] [1, 0] rfl rfl rfl rfl) (q_call rfl rfl rfl rfl rfl (fun w => Tryz.call24 _ w) (v := .int .i64 (if (Sup.mk 1 1 p s l 0 1).Ok ((newD n).n : Int) then 0 else 1)) (cq (check_c (Sup.mk 1 1 p s l 0 1) _ (by omega)) (by rintro _ _ ⟨rfl, rfl⟩; exact ⟨rfl, rfl⟩) 0 [] [] rfl rfl rfl rfl) (q_do rfl rfl rfl (d_neq rfl rfl rfl) (q_end (fun w H' => ?_))))))))))
 have H := H'.l2; clear H'; refine k_dec rfl (fun h1 => ?_) (fun h1 => ?_)
 ·exact (h1 (if_pos hok1)).elim
 ·refine k_skip (k_seq (k_seq (s_region (s_do rfl rfl rfl (d_move rfl rfl) (s_do rfl rfl rfl (d_move rfl rfl) (s_end (k_block ?_))))))); refine c_loop (σ := Nat) (fun k => [(27, .int .i64 (k : Int)), (0, .pointer (some ⟨pd, 0, none⟩)), (9, .pointer (some ⟨b1, 0, none⟩)), (26, .int .i64 p)])
    (fun k w => Sep z (blk b1 [.int .i64 1, .int .i64 1, .int .i64 p, .int .i64 s, .int .i64 l, .int .i64 0, .int .i64 1] 49 :: diskA pd (zhD (newD n) k) :: R) w ∧ (k ≤ p.toNat)) (fun k => p.toNat - k) 0
    (fun _ hF => (hF.cons (hF.cons (hF.cons (hF.cons hF.nil 26 _ _ rfl rfl) 9 _ _ rfl rfl) 0 _ _ rfl rfl) 27 _ _ rfl (by go_num))) ⟨H, by omega⟩ ?_
  clear H; rintro k w ⟨H', hI⟩; have H := H'.l2; clear H'; have hkp := hI; clear hI
  refine k_seq (s_region (s_do rfl rfl rfl (d_lss rfl rfl rfl) (s_end (k_seq (k_dec rfl (fun h2 => ?_) (fun h2 => ?_))))))
  ·refine k_skip (k_seq (k_block (k_seq (s_region (s_do rfl rfl rfl (d_move rfl rfl) (s_do rfl rfl rfl (d_assign rfl rfl) (s_end (k_seq (s_region (s_do rfl rfl rfl (d_move rfl rfl) (s_do rfl rfl rfl (d_move rfl rfl) (s_do rfl rfl rfl (d_add64 rfl rfl rfl (r := (2 : Int) + (k : Int)) (by omega) (by omega)) (s_go rfl rfl rfl (n_make (k := 256) H rfl (by kernel_rfl) (Elt.mk (P := Tryz.prog) (e := 5) (z := u8 0) (sz := 1) (by_ := 1) (by kernel_rfl) rfl (by omega) (by omega)) rfl rfl rfl (by omega)) ?_))))))))))))); rintro _ w ⟨b2, rfl, H'⟩; have H := H'.l3; clear H'; refine s_C rfl rfl rfl rfl rfl (fun w => Tryz.call26 _ w) (write1_c _ _ _ _ _ _ _ (List.replicate 256 0) _ (by simp) (fun h q => by rw [List.map_replicate]; exact q.rd (by omega) (by omega) (by simp) rfl) (fun i => by have := zh_len n i k; omega) (by rw [zh_n]; show 0 ≤ (2 : Int) + (k : Int) ∧ (2 : Int) + (k : Int) + 1 ≤ (n : Int); omega)) H.f2 rfl ?_; rintro _ w _ (⟨hbad, rfl, rfl⟩ | ⟨_, rfl, rfl⟩) H'
   ·exact absurd hbad (zh_clean (newD_clean n) k).bad
   ·have H := H'.l3; clear H'; refine s_do rfl rfl rfl (d_assign rfl rfl) (s_end (k_seq (s_region (s_do rfl rfl rfl (d_move rfl rfl) (s_do rfl rfl rfl (d_neq rfl rfl rfl) (k_updA 36 (u := .bool (decide ((0 : Int) ≠ 0))) (v := .bool false) rfl (congrArg Value.bool (by decide)) (s_end (k_false rfl (k_skip (s_region (s_do rfl rfl rfl (d_add64 rfl rfl rfl (r := (k : Int) + 1) (by omega) (by omega)) (s_do rfl rfl rfl (d_move rfl rfl) (s_end ?_))))))))))))); replace H := H.f1.d.f1; intro _ hF; refine ⟨(k + 1), (hF.cons (hF.cons (hF.cons (hF.cons hF.nil 26 _ _ rfl rfl) 9 _ _ rfl rfl) 0 _ _ rfl rfl) 27 _ _ rfl (by go_num)), ⟨(by rw [← zh_step]; exact H), ?_⟩, ?_⟩
    ·omega
    ·omega
  ·obtain rfl : k = p.toNat := by omega
   refine k_exit (k_here (k_seq (k_seq (s_region (s_do rfl rfl rfl (d_move rfl rfl) (s_C rfl rfl rfl rfl rfl (fun w => Tryz.call27 _ w) (flush_c _ _) H.f1 rfl ?_)))))); rintro _ w _ (⟨hfb_, rfl, rfl⟩ | ⟨_, rfl, rfl⟩) H'
   ·exact absurd hfb_ (zh_clean (newD_clean n) p.toNat).flb
   ·have H := H'.l2; clear H'; refine s_do rfl rfl rfl (d_assign rfl rfl) (s_end (k_seq (s_region (s_do rfl rfl rfl (d_move rfl rfl) (s_do rfl rfl rfl (d_neq rfl rfl rfl) (k_updA 42 (u := .bool (decide ((0 : Int) ≠ 0))) (v := .bool false) rfl (congrArg Value.bool (by decide)) (s_end (k_false rfl (k_skip (k_seq (s_region (s_C rfl rfl rfl rfl rfl (fun w => Tryz.call28 _ w) (crcnew_c ) H rfl ?_)))))))))))); rintro _ w _ ⟨pt, rfl, rfl⟩ H'; have H := H'.l3; clear H'; refine s_do rfl rfl rfl (d_assign rfl rfl) (s_end (k_seq (k_seq (s_region (s_do rfl rfl rfl (d_move rfl rfl) (s_do rfl rfl rfl (d_move rfl rfl) (s_do rfl rfl rfl (d_loadAgg rfl rfl (vs := [.int .i64 1, .int .i64 1, .int .i64 p, .int .i64 s, .int .i64 l, .int .i64 0, .int .i64 1]) (by kernel_rfl) (here ((H.blk 2 rfl).part 0 7 _ rfl))) (s_C rfl rfl rfl rfl rfl (fun w => Tryz.call29 _ w) (save_c _ _ _ (fmS p s l 1) (by show (fmS p s l 1).Ok ((zhD (newD n) p.toNat).n : Int); rw [zh_n]; exact hok1) (fun i => by show ([] : List (List UInt8)).length ≤ _; simp)) H.f1 rfl ?_)))))))); rintro _ w _ (⟨hsb, rfl, rfl⟩ | ⟨_, rfl, rfl⟩) H'
    ·exact absurd hsb ((zh_clean (newD_clean n) p.toNat).fl).bad
    ·have H := H'.l3; clear H'; refine s_do rfl rfl rfl (d_assign rfl rfl) (s_end (k_seq (s_region (s_do rfl rfl rfl (d_move rfl rfl) (s_do rfl rfl rfl (d_neq rfl rfl rfl) (k_updA 50 (u := .bool (decide ((0 : Int) ≠ 0))) (v := .bool false) rfl (congrArg Value.bool (by decide)) (s_end (k_false rfl (k_skip (k_seq (s_region (s_do rfl rfl rfl (d_field rfl (k := 0) (r := 0) (by kernel_rfl) rfl rfl) (s_put rfl rfl (n_store 2 H rfl rfl rfl rfl (vs := [.int .i64 2]) rfl (by simp [u8, u32, Value.oneCell']) (by kernel_rfl) (by simp) (out := [.int .i64 2, .int .i64 1, .int .i64 p, .int .i64 s, .int .i64 l, .int .i64 0, .int .i64 1]) rfl) ?_))))))))))))); rintro w H'; have H := H'.l3; clear H'; refine s_end (k_seq (s_region (s_do rfl rfl rfl (d_move rfl rfl) (s_do rfl rfl rfl (d_move rfl rfl) (s_do rfl rfl rfl (d_loadAgg rfl rfl (vs := [.int .i64 2, .int .i64 1, .int .i64 p, .int .i64 s, .int .i64 l, .int .i64 0, .int .i64 1]) (by kernel_rfl) (here ((H.blk 2 rfl).part 0 7 _ rfl))) (s_C rfl rfl rfl rfl rfl (fun w => Tryz.call29 _ w) (save_c _ _ _ (fmS p s l 2) (by show (fmS p s l 2).Ok ((zhD (newD n) p.toNat).n : Int); rw [zh_n]; exact hok) (fun i => by rw [sv_ver (fun _ => rfl)]; simp)) H rfl ?_)))))); rintro _ w _ (⟨hsb, rfl, rfl⟩ | ⟨_, rfl, rfl⟩) H'
     ·exact absurd hsb (((zh_clean (newD_clean n) p.toNat).fl.sv _)).bad
     ·have H := H'.l3; clear H'; refine s_do rfl rfl rfl (d_assign rfl rfl) (s_end (k_ret (doneL rfl [.int .i64 0] ⟨rfl, trivial⟩ (v := .int .i64 0) rfl ?_))); exact ⟨[diskA pd (svD (svD ((zhD (newD n) p.toNat).fl) (fmS p s l 1)) (fmS p s l 2))], ⟨rfl, rfl⟩, H.perm 3 [0] rfl rfl⟩
theorem ssync_c (ps pd pt md : Nat) (x : Sup) (lp mo : Value) (D : Dsk) : Cn Tryz.prog 39 [.pointer (some ⟨ps, 0, none⟩)] [blk ps [.pointer (some ⟨pd, 0, none⟩), .pointer (some ⟨pt, 0, none⟩), .int .i64 x.gen, .int .i64 x.epoch, .int .i64 x.pages, .int .i64 x.start, .int .i64 x.len, .int .i64 x.head, .int .i64 x.seq, lp, .map (some md), .bool false, mo] 67, diskA pd D] (fun v Γ => (D.flb ∧ v = .int .i64 12 ∧ Γ = [blk ps [.pointer (some ⟨pd, 0, none⟩), .pointer (some ⟨pt, 0, none⟩), .int .i64 x.gen, .int .i64 x.epoch, .int .i64 x.pages, .int .i64 x.start, .int .i64 x.len, .int .i64 x.head, .int .i64 x.seq, lp, .map (some md), .bool false, mo] 67, diskA pd { D with f3 := tick D.f3 }]) ∨ (¬ D.flb ∧ v = .int .i64 0 ∧ Γ = [blk ps [.pointer (some ⟨pd, 0, none⟩), .pointer (some ⟨pt, 0, none⟩), .int .i64 x.gen, .int .i64 x.epoch, .int .i64 x.pages, .int .i64 x.start, .int .i64 x.len, .int .i64 x.head, .int .i64 x.seq, lp, .map (some md), .bool false, mo] 67, diskA pd D.fl])) := by
 intro z R w H'; have H : Sep z (blk ps [.pointer (some ⟨pd, 0, none⟩), .pointer (some ⟨pt, 0, none⟩), .int .i64 x.gen, .int .i64 x.epoch, .int .i64 x.pages, .int .i64 x.start, .int .i64 x.len, .int .i64 x.head, .int .i64 x.seq, lp, .map (some md), .bool false, mo] 67 :: diskA pd D :: R) w := H'
 clear H'; refine enter Tryz.func39 rfl 12 Tryz.ntmps39 rfl (k_seq (s_region (s_do rfl rfl rfl (d_assign rfl rfl) (s_end (k_seq (k_seq (s_region (s_do rfl rfl rfl (d_move rfl rfl) (s_do rfl rfl rfl (d_nilCheck rfl rfl) (s_do rfl rfl rfl (d_field rfl (k := 11) (r := 11) (by kernel_rfl) rfl rfl) (s_do rfl rfl rfl (d_load rfl rfl (by kernel_rfl) (here (H.cel 0 rfl 11 rfl))) (s_end (k_false rfl ?_))))))))))))); refine k_skip (k_seq (s_region (s_do rfl rfl rfl (d_move rfl rfl) (s_do rfl rfl rfl (d_nilCheck rfl rfl) (s_do rfl rfl rfl (d_field rfl (k := 0) (r := 0) (by kernel_rfl) rfl rfl) (s_do rfl rfl rfl (d_load rfl rfl (by kernel_rfl) (here (H.cel 0 rfl 0 rfl))) (s_C rfl rfl rfl rfl rfl (fun w => Tryz.call27 _ w) (flush_c _ _) H.f1 rfl ?_))))))); rintro _ w _ (⟨hfb_, rfl, rfl⟩ | ⟨hfb_, rfl, rfl⟩) H'
 ·have H := H'.l2; clear H'; refine s_do rfl rfl rfl (d_assign rfl rfl) (s_end (k_ret (doneL rfl [.int .i64 12] ⟨rfl, trivial⟩ (v := .int .i64 12) rfl ?_))); exact ⟨[blk ps [.pointer (some ⟨pd, 0, none⟩), .pointer (some ⟨pt, 0, none⟩), .int .i64 x.gen, .int .i64 x.epoch, .int .i64 x.pages, .int .i64 x.start, .int .i64 x.len, .int .i64 x.head, .int .i64 x.seq, lp, .map (some md), .bool false, mo] 67, diskA pd ({ D with f3 := tick D.f3 })], .inl ⟨hfb_, rfl, rfl⟩, H.perm 2 [1, 0] rfl rfl⟩
 ·have H := H'.l2; clear H'; refine s_do rfl rfl rfl (d_assign rfl rfl) (s_end (k_ret (doneL rfl [.int .i64 0] ⟨rfl, trivial⟩ (v := .int .i64 0) rfl ?_))); exact ⟨[blk ps [.pointer (some ⟨pd, 0, none⟩), .pointer (some ⟨pt, 0, none⟩), .int .i64 x.gen, .int .i64 x.epoch, .int .i64 x.pages, .int .i64 x.start, .int .i64 x.len, .int .i64 x.head, .int .i64 x.seq, lp, .map (some md), .bool false, mo] 67, diskA pd D.fl], .inr ⟨hfb_, rfl, rfl⟩, H.perm 2 [1, 0] rfl rfl⟩
set_option maxHeartbeats 2000000 in
theorem check_pt_c (ps pd pt pl md : Nat) (x sL : Sup) (mo : Value) (nu : Bool) (hq : Hp) (D : Dsk) (B : Nat → Pg) (rs : List Rc) (ptl : List (List UInt8)) (a q u : Int) (b : Bool) (sure : Nat) (hS : SInv D x B rs ptl a q u b sure) (hL : sL.start = x.start ∧ sL.len = x.len ∧ sL.epoch = x.epoch) (hqb : q ≤ 1099511627776) (hver : ∀ i, (D.ver i).length ≤ 1000000000000) : Cn Tryz.prog 18 [.pointer (some ⟨ps, 0, none⟩)] [blk ps [.pointer (some ⟨pd, 0, none⟩), .pointer (some ⟨pt, 0, none⟩), .int .i64 x.gen, .int .i64 x.epoch, .int .i64 x.pages, .int .i64 x.start, .int .i64 x.len, .int .i64 x.head, .int .i64 x.seq, .pointer (some ⟨pl, 0, none⟩), .map (some md), .bool false, mo] 67, blk pl [.pointer (some ⟨pd, 0, none⟩), .pointer (some ⟨pt, 0, none⟩), .int .i64 sL.gen, .int .i64 sL.epoch, .int .i64 sL.pages, .int .i64 sL.start, .int .i64 sL.len, .int .i64 sL.head, .int .i64 sL.seq, .int .i64 a, .int .i64 q, .int .i64 u, .bool b, .bool nu] 119, tblA pt, diskA pd D, pgsA md (ov rs) hq, poolA hq] (fun v Γ => ((∀ n, ov rs n = none) ∧ b = false ∧ u < x.len ∧ v = .int .i64 0 ∧ Γ = [blk ps [.pointer (some ⟨pd, 0, none⟩), .pointer (some ⟨pt, 0, none⟩), .int .i64 x.gen, .int .i64 x.epoch, .int .i64 x.pages, .int .i64 x.start, .int .i64 x.len, .int .i64 x.head, .int .i64 x.seq, .pointer (some ⟨pl, 0, none⟩), .map (some md), .bool false, mo] 67, blk pl [.pointer (some ⟨pd, 0, none⟩), .pointer (some ⟨pt, 0, none⟩), .int .i64 sL.gen, .int .i64 sL.epoch, .int .i64 sL.pages, .int .i64 sL.start, .int .i64 sL.len, .int .i64 sL.head, .int .i64 sL.seq, .int .i64 a, .int .i64 q, .int .i64 u, .bool b, .bool nu] 119, tblA pt, diskA pd D, pgsA md (ov rs) hq, poolA hq]) ∨ (∃ D2 : Dsk, ¬ ((∀ n, ov rs n = none) ∧ b = false ∧ u < x.len) ∧ SInv D2 (ckS x a q) (pgMap (ov rs) B) [] [] a q 0 false 0 ∧ (Clean D → Clean D2) ∧ D2.n = D.n ∧ (∀ i, D2.ver i = []) ∧ v = .int .i64 0 ∧ Γ = [blk ps [.pointer (some ⟨pd, 0, none⟩), .pointer (some ⟨pt, 0, none⟩), .int .i64 ((ckS x a q).gen), .int .i64 ((ckS x a q).epoch), .int .i64 ((ckS x a q).pages), .int .i64 ((ckS x a q).start), .int .i64 ((ckS x a q).len), .int .i64 ((ckS x a q).head), .int .i64 ((ckS x a q).seq), .pointer (some ⟨pl, 0, none⟩), .map (some md), .bool false, mo] 67, blk pl [.pointer (some ⟨pd, 0, none⟩), .pointer (some ⟨pt, 0, none⟩), .int .i64 sL.gen, .int .i64 sL.epoch, .int .i64 sL.pages, .int .i64 sL.start, .int .i64 sL.len, .int .i64 sL.head, .int .i64 sL.seq, .int .i64 a, .int .i64 q, .int .i64 0, .bool false, .bool nu] 119, tblA pt, diskA pd D2, pgsA md noPgs hq, poolA hq]) ∨ (∃ (c : Int) (D2 : Dsk) (sure2 : Nat), c ≠ 0 ∧ (¬ Clean D ∨ 1099511627776 < x.gen + 1) ∧ SInv D2 x B rs ptl a q u b sure2 ∧ D2.n = D.n ∧ (∀ i, (D2.ver i).length ≤ (D.ver i).length + 1) ∧ v = .int .i64 c ∧ Γ = [blk ps [.pointer (some ⟨pd, 0, none⟩), .pointer (some ⟨pt, 0, none⟩), .int .i64 x.gen, .int .i64 x.epoch, .int .i64 x.pages, .int .i64 x.start, .int .i64 x.len, .int .i64 x.head, .int .i64 x.seq, .pointer (some ⟨pl, 0, none⟩), .map (some md), .bool false, mo] 67, blk pl [.pointer (some ⟨pd, 0, none⟩), .pointer (some ⟨pt, 0, none⟩), .int .i64 sL.gen, .int .i64 sL.epoch, .int .i64 sL.pages, .int .i64 sL.start, .int .i64 sL.len, .int .i64 sL.head, .int .i64 sL.seq, .int .i64 a, .int .i64 q, .int .i64 u, .bool b, .bool nu] 119, tblA pt, diskA pd D2, pgsA md (ov rs) hq, poolA hq])) := by
 intro z R w H'; have H : Sep z (blk ps [.pointer (some ⟨pd, 0, none⟩), .pointer (some ⟨pt, 0, none⟩), .int .i64 x.gen, .int .i64 x.epoch, .int .i64 x.pages, .int .i64 x.start, .int .i64 x.len, .int .i64 x.head, .int .i64 x.seq, .pointer (some ⟨pl, 0, none⟩), .map (some md), .bool false, mo] 67 :: blk pl [.pointer (some ⟨pd, 0, none⟩), .pointer (some ⟨pt, 0, none⟩), .int .i64 sL.gen, .int .i64 sL.epoch, .int .i64 sL.pages, .int .i64 sL.start, .int .i64 sL.len, .int .i64 sL.head, .int .i64 sL.seq, .int .i64 a, .int .i64 q, .int .i64 u, .bool b, .bool nu] 119 :: tblA pt :: diskA pd D :: pgsA md (ov rs) hq :: poolA hq :: R) w := H'
 clear H'; refine enter Tryz.func18 rfl 9 Tryz.ntmps18 rfl (k_seq (s_region (s_do rfl rfl rfl (d_assign rfl rfl) (s_end (k_seq (k_seq (s_region (s_do rfl rfl rfl (d_move rfl rfl) (s_do rfl rfl rfl (d_nilCheck rfl rfl) (s_do rfl rfl rfl (d_field rfl (k := 11) (r := 11) (by kernel_rfl) rfl rfl) (s_do rfl rfl rfl (d_load rfl rfl (by kernel_rfl) (here (H.cel 0 rfl 11 rfl))) (s_end (k_false rfl ?_))))))))))))); refine k_skip (k_seq (s_region (s_do rfl rfl rfl (d_move rfl rfl) (s_C rfl rfl rfl rfl rfl (fun w => Tryz.call40 _ w) (checkpoint_c _ _ _ _ _ _ _ _ _ _ _ _ _ _ _ _ _ _ _ _ hS hL (by omega) hver) H rfl ?_)))); rintro _ w _ (⟨hn0, hbf, hu64, rfl, rfl⟩ | ⟨D2, hne2, hS2, hcl2, hDn2, hv2, rfl, rfl⟩ | ⟨c3_, D2, sure2, hcne, hwhy, hS2, hDn2, hvl2, rfl, rfl⟩) H'
 ·have H := H'.l6; clear H'; refine s_do rfl rfl rfl (d_assign rfl rfl) (s_end (k_ret (doneL rfl [.int .i64 0] ⟨rfl, trivial⟩ (v := .int .i64 0) rfl ?_))); exact ⟨[blk ps [.pointer (some ⟨pd, 0, none⟩), .pointer (some ⟨pt, 0, none⟩), .int .i64 x.gen, .int .i64 x.epoch, .int .i64 x.pages, .int .i64 x.start, .int .i64 x.len, .int .i64 x.head, .int .i64 x.seq, .pointer (some ⟨pl, 0, none⟩), .map (some md), .bool false, mo] 67, blk pl [.pointer (some ⟨pd, 0, none⟩), .pointer (some ⟨pt, 0, none⟩), .int .i64 sL.gen, .int .i64 sL.epoch, .int .i64 sL.pages, .int .i64 sL.start, .int .i64 sL.len, .int .i64 sL.head, .int .i64 sL.seq, .int .i64 a, .int .i64 q, .int .i64 u, .bool b, .bool nu] 119, tblA pt, diskA pd D, pgsA md (ov rs) hq, poolA hq], .inl ⟨hn0, hbf, hu64, rfl, rfl⟩, H⟩
 ·have H := H'.l6; clear H'; refine s_do rfl rfl rfl (d_assign rfl rfl) (s_end (k_ret (doneL rfl [.int .i64 0] ⟨rfl, trivial⟩ (v := .int .i64 0) rfl ?_))); exact ⟨[blk ps [.pointer (some ⟨pd, 0, none⟩), .pointer (some ⟨pt, 0, none⟩), .int .i64 ((ckS x a q).gen), .int .i64 ((ckS x a q).epoch), .int .i64 ((ckS x a q).pages), .int .i64 ((ckS x a q).start), .int .i64 ((ckS x a q).len), .int .i64 ((ckS x a q).head), .int .i64 ((ckS x a q).seq), .pointer (some ⟨pl, 0, none⟩), .map (some md), .bool false, mo] 67, blk pl [.pointer (some ⟨pd, 0, none⟩), .pointer (some ⟨pt, 0, none⟩), .int .i64 sL.gen, .int .i64 sL.epoch, .int .i64 sL.pages, .int .i64 sL.start, .int .i64 sL.len, .int .i64 sL.head, .int .i64 sL.seq, .int .i64 a, .int .i64 q, .int .i64 0, .bool false, .bool nu] 119, tblA pt, diskA pd D2, pgsA md noPgs hq, poolA hq], .inr (.inl ⟨D2, hne2, hS2, hcl2, hDn2, hv2, rfl, rfl⟩), H⟩
 ·have H := H'.l6; clear H'; refine s_do rfl rfl rfl (d_assign rfl rfl) (s_end (k_ret (doneL rfl [.int .i64 c3_] ⟨rfl, trivial⟩ (v := .int .i64 c3_) rfl ?_))); exact ⟨[blk ps [.pointer (some ⟨pd, 0, none⟩), .pointer (some ⟨pt, 0, none⟩), .int .i64 x.gen, .int .i64 x.epoch, .int .i64 x.pages, .int .i64 x.start, .int .i64 x.len, .int .i64 x.head, .int .i64 x.seq, .pointer (some ⟨pl, 0, none⟩), .map (some md), .bool false, mo] 67, blk pl [.pointer (some ⟨pd, 0, none⟩), .pointer (some ⟨pt, 0, none⟩), .int .i64 sL.gen, .int .i64 sL.epoch, .int .i64 sL.pages, .int .i64 sL.start, .int .i64 sL.len, .int .i64 sL.head, .int .i64 sL.seq, .int .i64 a, .int .i64 q, .int .i64 u, .bool b, .bool nu] 119, tblA pt, diskA pd D2, pgsA md (ov rs) hq, poolA hq], .inr (.inr ⟨c3_, D2, sure2, hcne, hwhy, hS2, hDn2, hvl2, rfl, rfl⟩), H⟩
set_option maxHeartbeats 2000000 in
theorem switch_c (ps pd pt pl md : Nat) (x sL : Sup) (mo : Value) (nu : Bool) (hq : Hp) (D : Dsk) (B : Nat → Pg) (rs : List Rc) (ptl : List (List UInt8)) (a q u : Int) (b : Bool) (sure : Nat) (hS : SInv D x B rs ptl a q u b sure) (hL : sL.start = x.start ∧ sL.len = x.len ∧ sL.epoch = x.epoch) (hqb : q ≤ 1099511627776) (hver : ∀ i, (D.ver i).length ≤ 1000000000000) (start len : Int) (he1 : x.epoch + 1 < 4294967296) : Cn Tryz.prog 23 [.pointer (some ⟨ps, 0, none⟩), .int .i64 start, .int .i64 len] [blk ps [.pointer (some ⟨pd, 0, none⟩), .pointer (some ⟨pt, 0, none⟩), .int .i64 x.gen, .int .i64 x.epoch, .int .i64 x.pages, .int .i64 x.start, .int .i64 x.len, .int .i64 x.head, .int .i64 x.seq, .pointer (some ⟨pl, 0, none⟩), .map (some md), .bool false, mo] 67, blk pl [.pointer (some ⟨pd, 0, none⟩), .pointer (some ⟨pt, 0, none⟩), .int .i64 sL.gen, .int .i64 sL.epoch, .int .i64 sL.pages, .int .i64 sL.start, .int .i64 sL.len, .int .i64 sL.head, .int .i64 sL.seq, .int .i64 a, .int .i64 q, .int .i64 u, .bool b, .bool nu] 119, tblA pt, diskA pd D, pgsA md (ov rs) hq, poolA hq] (fun v Γ => ((¬ ∀ n, ov rs n = none) ∧ v = .int .i64 17 ∧ Γ = [blk ps [.pointer (some ⟨pd, 0, none⟩), .pointer (some ⟨pt, 0, none⟩), .int .i64 x.gen, .int .i64 x.epoch, .int .i64 x.pages, .int .i64 x.start, .int .i64 x.len, .int .i64 x.head, .int .i64 x.seq, .pointer (some ⟨pl, 0, none⟩), .map (some md), .bool false, mo] 67, blk pl [.pointer (some ⟨pd, 0, none⟩), .pointer (some ⟨pt, 0, none⟩), .int .i64 sL.gen, .int .i64 sL.epoch, .int .i64 sL.pages, .int .i64 sL.start, .int .i64 sL.len, .int .i64 sL.head, .int .i64 sL.seq, .int .i64 a, .int .i64 q, .int .i64 u, .bool b, .bool nu] 119, tblA pt, diskA pd D, pgsA md (ov rs) hq, poolA hq]) ∨ ((∀ n, ov rs n = none) ∧ ¬ (swS x start len).Ok (D.n : Int) ∧ v = .int .i64 1 ∧ Γ = [blk ps [.pointer (some ⟨pd, 0, none⟩), .pointer (some ⟨pt, 0, none⟩), .int .i64 x.gen, .int .i64 x.epoch, .int .i64 x.pages, .int .i64 x.start, .int .i64 x.len, .int .i64 x.head, .int .i64 x.seq, .pointer (some ⟨pl, 0, none⟩), .map (some md), .bool false, mo] 67, blk pl [.pointer (some ⟨pd, 0, none⟩), .pointer (some ⟨pt, 0, none⟩), .int .i64 sL.gen, .int .i64 sL.epoch, .int .i64 sL.pages, .int .i64 sL.start, .int .i64 sL.len, .int .i64 sL.head, .int .i64 sL.seq, .int .i64 a, .int .i64 q, .int .i64 u, .bool b, .bool nu] 119, tblA pt, diskA pd D, pgsA md (ov rs) hq, poolA hq]) ∨ ((∀ n, ov rs n = none) ∧ (swS x start len).Ok (D.n : Int) ∧ D.bad ∧ v = .int .i64 11 ∧ Γ = [blk ps [.pointer (some ⟨pd, 0, none⟩), .pointer (some ⟨pt, 0, none⟩), .int .i64 x.gen, .int .i64 x.epoch, .int .i64 x.pages, .int .i64 x.start, .int .i64 x.len, .int .i64 x.head, .int .i64 x.seq, .pointer (some ⟨pl, 0, none⟩), .map (some md), .bool false, mo] 67, blk pl [.pointer (some ⟨pd, 0, none⟩), .pointer (some ⟨pt, 0, none⟩), .int .i64 sL.gen, .int .i64 sL.epoch, .int .i64 sL.pages, .int .i64 sL.start, .int .i64 sL.len, .int .i64 sL.head, .int .i64 sL.seq, .int .i64 a, .int .i64 q, .int .i64 u, .bool b, .bool nu] 119, tblA pt, diskA pd D.wf, pgsA md (ov rs) hq, poolA hq]) ∨ ((∀ n, ov rs n = none) ∧ (swS x start len).Ok (D.n : Int) ∧ ¬ D.bad ∧ ∃ pl2, SInv (svD D (swS x start len)) (swS x start len) B [] [] 0 1 0 false 0 ∧ v = .int .i64 0 ∧ Γ = [blk ps [.pointer (some ⟨pd, 0, none⟩), .pointer (some ⟨pt, 0, none⟩), .int .i64 ((swS x start len).gen), .int .i64 ((swS x start len).epoch), .int .i64 ((swS x start len).pages), .int .i64 ((swS x start len).start), .int .i64 ((swS x start len).len), .int .i64 ((swS x start len).head), .int .i64 ((swS x start len).seq), .pointer (some ⟨pl2, 0, none⟩), .map (some md), .bool false, mo] 67, blk pl2 [.pointer (some ⟨pd, 0, none⟩), .pointer (some ⟨pt, 0, none⟩), .int .i64 ((swS x start len).gen), .int .i64 ((swS x start len).epoch), .int .i64 ((swS x start len).pages), .int .i64 ((swS x start len).start), .int .i64 ((swS x start len).len), .int .i64 ((swS x start len).head), .int .i64 ((swS x start len).seq), .int .i64 0, .int .i64 1, .int .i64 0, .bool false, .bool (decide ((swS x start len).epoch < 4294967296))] 119, tblA pt, diskA pd (svD D (swS x start len)), pgsA md (ov rs) hq, poolA hq])) := by
 intro z R w H'; have H : Sep z (blk ps [.pointer (some ⟨pd, 0, none⟩), .pointer (some ⟨pt, 0, none⟩), .int .i64 x.gen, .int .i64 x.epoch, .int .i64 x.pages, .int .i64 x.start, .int .i64 x.len, .int .i64 x.head, .int .i64 x.seq, .pointer (some ⟨pl, 0, none⟩), .map (some md), .bool false, mo] 67 :: blk pl [.pointer (some ⟨pd, 0, none⟩), .pointer (some ⟨pt, 0, none⟩), .int .i64 sL.gen, .int .i64 sL.epoch, .int .i64 sL.pages, .int .i64 sL.start, .int .i64 sL.len, .int .i64 sL.head, .int .i64 sL.seq, .int .i64 a, .int .i64 q, .int .i64 u, .bool b, .bool nu] 119 :: tblA pt :: diskA pd D :: pgsA md (ov rs) hq :: poolA hq :: R) w := H'
 clear H'; have hok := hS.ok
 have hsg := Sup.get hok
 have hk2 := hok.2
 have hP := hS.p
 have hpa := hP.at_ok hS.s
 have hul := hP.ul
 have hfu := hP.fu
 have hgen := hS.gen
 have hfq := hP.fq
 have hsq := hS.s.seq
 have hq0 : 0 ≤ q := by split at hfq <;> omega
 have hhd := hS.s.head
 have hfbb : ∀ n, (ov rs n).isSome = true → n < 1024 := fun n h => by have := hS.ovb h; omega
 have hfnn : ∀ n, (ov rs n).isSome = true → 2 + n < D.n := fun n h => by have := hS.ovb h; omega
 have hn2d := H.says 3 rfl (fun h q => (diskA.ok q).n2)
 obtain ⟨es, clk, hpg, H'⟩ := H.pgs 4 rfl; clear H; have H := H'.l6; clear H'; refine enter Tryz.func23 rfl 77 Tryz.ntmps23 rfl (k_seq (s_region (s_do rfl rfl rfl (d_assign rfl rfl) (s_end (k_seq (k_seq (s_region (s_do rfl rfl rfl (d_move rfl rfl) (s_do rfl rfl rfl (d_nilCheck rfl rfl) (s_do rfl rfl rfl (d_field rfl (k := 11) (r := 11) (by kernel_rfl) rfl rfl) (s_do rfl rfl rfl (d_load rfl rfl (by kernel_rfl) (here (H.cel 0 rfl 11 rfl))) (s_do rfl rfl rfl (d_move rfl rfl) (s_do rfl rfl rfl (d_move rfl rfl) ?_))))))))))))); refine s_do rfl rfl rfl (d_nilCheck rfl rfl) (s_do rfl rfl rfl (d_field rfl (k := 10) (r := 10) (by kernel_rfl) rfl rfl) (s_do rfl rfl rfl (d_load rfl rfl (by kernel_rfl) (here (H.cel 0 rfl 10 rfl))) (s_do rfl rfl rfl (d_lenM (e := 40) rfl (by kernel_rfl) rfl (here (H.bk 4 rfl))) (s_do rfl rfl rfl (d_gtr rfl rfl rfl) (s_do rfl rfl rfl (d_pick_f rfl rfl rfl) (s_end (k_dec rfl (fun h1 => ?_) (fun h1 => ?_))))))))
 ·refine k_seq (s_region (s_do rfl rfl rfl (d_assign rfl rfl) (s_end (k_ret (doneL rfl [.int .i64 17] ⟨rfl, trivial⟩ (v := .int .i64 17) rfl ?_))))); have H' := H.toPgs 4 rfl hpg
  have H := H'.l6; clear H'; exact ⟨[blk ps [.pointer (some ⟨pd, 0, none⟩), .pointer (some ⟨pt, 0, none⟩), .int .i64 x.gen, .int .i64 x.epoch, .int .i64 x.pages, .int .i64 x.start, .int .i64 x.len, .int .i64 x.head, .int .i64 x.seq, .pointer (some ⟨pl, 0, none⟩), .map (some md), .bool false, mo] 67, blk pl [.pointer (some ⟨pd, 0, none⟩), .pointer (some ⟨pt, 0, none⟩), .int .i64 sL.gen, .int .i64 sL.epoch, .int .i64 sL.pages, .int .i64 sL.start, .int .i64 sL.len, .int .i64 sL.head, .int .i64 sL.seq, .int .i64 a, .int .i64 q, .int .i64 u, .bool b, .bool nu] 119, tblA pt, diskA pd D, pgsA md (ov rs) hq, poolA hq], .inl ⟨fun hn => by have hz := hpg.nil_iff.2 hn; simp at h1; omega, rfl, rfl⟩, H⟩
 ·refine k_skip (k_seq (s_region (s_do rfl rfl rfl (d_move rfl rfl) (s_do rfl rfl rfl (d_nilCheck rfl rfl) (s_do rfl rfl rfl (d_field rfl (k := 2) (r := 2) (by kernel_rfl) rfl rfl) (s_do rfl rfl rfl (d_loadAgg rfl rfl (vs := [.int .i64 x.gen, .int .i64 x.epoch, .int .i64 x.pages, .int .i64 x.start, .int .i64 x.len, .int .i64 x.head, .int .i64 x.seq]) (by kernel_rfl) (here ((H.blk 0 rfl).part 2 7 _ rfl))) (s_go rfl rfl rfl (n_alloc (P := Tryz.prog) H rfl (zs := [.int .i64 0, .int .i64 0, .int .i64 0, .int .i64 0, .int .i64 0, .int .i64 0, .int .i64 0]) (by kernel_rfl)) ?_))))))); rintro _ w ⟨b1, rfl, H'⟩; have H := H'.l7; clear H'; refine s_put rfl rfl (n_store 0 H rfl rfl rfl rfl (vs := [.int .i64 x.gen, .int .i64 x.epoch, .int .i64 x.pages, .int .i64 x.start, .int .i64 x.len, .int .i64 x.head, .int .i64 x.seq]) rfl (by simp [u8, u32, Value.oneCell']) (by kernel_rfl) (by simp) (out := [.int .i64 x.gen, .int .i64 x.epoch, .int .i64 x.pages, .int .i64 x.start, .int .i64 x.len, .int .i64 x.head, .int .i64 x.seq]) rfl) ?_; rintro w H'; have H := H'.l7; clear H'; refine s_end (k_seq (s_region (s_do rfl rfl rfl (d_field rfl (k := 0) (r := 0) (by kernel_rfl) rfl rfl) (s_do rfl rfl rfl (d_load rfl rfl (by kernel_rfl) (here (H.cel 0 rfl 0 rfl))) (s_do rfl rfl rfl (d_add64 rfl rfl rfl (r := x.gen + 1) (by omega) (by omega)) (s_do rfl rfl rfl (d_field rfl (k := 0) (r := 0) (by kernel_rfl) rfl rfl) (s_put rfl rfl (n_store 0 H rfl rfl rfl rfl (vs := [.int .i64 (x.gen + 1)]) rfl (by simp [u8, u32, Value.oneCell']) (by kernel_rfl) (by simp) (out := [.int .i64 (x.gen + 1), .int .i64 x.epoch, .int .i64 x.pages, .int .i64 x.start, .int .i64 x.len, .int .i64 x.head, .int .i64 x.seq]) rfl) ?_)))))))
  rintro w H'; have H := H'.l7; clear H'; refine s_end (k_seq (s_region (s_do rfl rfl rfl (d_field rfl (k := 1) (r := 1) (by kernel_rfl) rfl rfl) (s_do rfl rfl rfl (d_load rfl rfl (by kernel_rfl) (here (H.cel 0 rfl 1 rfl))) (s_do rfl rfl rfl (d_add64 rfl rfl rfl (r := x.epoch + 1) (by omega) (by omega)) (s_do rfl rfl rfl (d_field rfl (k := 1) (r := 1) (by kernel_rfl) rfl rfl) (s_put rfl rfl (n_store 0 H rfl rfl rfl rfl (vs := [.int .i64 (x.epoch + 1)]) rfl (by simp [u8, u32, Value.oneCell']) (by kernel_rfl) (by simp) (out := [.int .i64 (x.gen + 1), .int .i64 (x.epoch + 1), .int .i64 x.pages, .int .i64 x.start, .int .i64 x.len, .int .i64 x.head, .int .i64 x.seq]) rfl) ?_))))))); rintro w H'; have H := H'.l7; clear H'; refine s_end (k_seq (s_region (s_do rfl rfl rfl (d_move rfl rfl) (s_do rfl rfl rfl (d_move rfl rfl) (s_do rfl rfl rfl (d_field rfl (k := 3) (r := 3) (by kernel_rfl) rfl rfl) (s_put rfl rfl (n_store 0 H rfl rfl rfl rfl (vs := [.int .i64 start]) rfl (by simp [u8, u32, Value.oneCell']) (by kernel_rfl) (by simp) (out := [.int .i64 (x.gen + 1), .int .i64 (x.epoch + 1), .int .i64 x.pages, .int .i64 start, .int .i64 x.len, .int .i64 x.head, .int .i64 x.seq]) rfl) ?_)))))); rintro w H'; have H := H'.l7; clear H'; refine s_do rfl rfl rfl (d_field rfl (k := 4) (r := 4) (by kernel_rfl) rfl rfl) (s_put rfl rfl (n_store 0 H rfl rfl rfl rfl (vs := [.int .i64 len]) rfl (by simp [u8, u32, Value.oneCell']) (by kernel_rfl) (by simp) (out := [.int .i64 (x.gen + 1), .int .i64 (x.epoch + 1), .int .i64 x.pages, .int .i64 start, .int .i64 len, .int .i64 x.head, .int .i64 x.seq]) rfl) ?_)
  rintro w H'; have H := H'.l7; clear H'; refine s_do rfl rfl rfl (d_field rfl (k := 5) (r := 5) (by kernel_rfl) rfl rfl) (s_put rfl rfl (n_store 0 H rfl rfl rfl rfl (vs := [.int .i64 0]) rfl (by simp [u8, u32, Value.oneCell']) (by kernel_rfl) (by simp) (out := [.int .i64 (x.gen + 1), .int .i64 (x.epoch + 1), .int .i64 x.pages, .int .i64 start, .int .i64 len, .int .i64 0, .int .i64 x.seq]) rfl) ?_); rintro w H'; have H := H'.l7; clear H'; refine s_do rfl rfl rfl (d_field rfl (k := 6) (r := 6) (by kernel_rfl) rfl rfl) (s_put rfl rfl (n_store 0 H rfl rfl rfl rfl (vs := [.int .i64 1]) rfl (by simp [u8, u32, Value.oneCell']) (by kernel_rfl) (by simp) (out := [.int .i64 (x.gen + 1), .int .i64 (x.epoch + 1), .int .i64 x.pages, .int .i64 start, .int .i64 len, .int .i64 0, .int .i64 1]) rfl) ?_); rintro w H'; have H := H'.l7; clear H'; refine s_end (k_seq (k_seq (q_region (Sep z _) (by kernel_rfl) (by kernel_rfl) H.drew (q_do rfl rfl rfl (d_loadAgg rfl rfl (vs := [.int .i64 (x.gen + 1), .int .i64 (x.epoch + 1), .int .i64 x.pages, .int .i64 start, .int .i64 len, .int .i64 0, .int .i64 1]) (by kernel_rfl) (fun _ hx => (hx.blk 0 rfl).part 0 7 _ rfl)) (q_do rfl rfl rfl (d_move rfl rfl) (q_do rfl rfl rfl (d_nilCheck rfl rfl) (q_do rfl rfl rfl (d_field rfl (k := 0) (r := 0) (by kernel_rfl) rfl rfl) (q_do rfl rfl rfl (d_load rfl rfl (by kernel_rfl) (fun _ hx => hx.cel 1 rfl 0 rfl)) (q_call rfl rfl rfl rfl rfl (fun w => Tryz.call25 _ w) (v := .int .i64 (D.n : Int)) (cq (sizeD_c _ _) (by rintro _ _ ⟨rfl, rfl⟩; exact ⟨rfl, rfl⟩) 5 [4, 0, 1, 2, 3] [1, 2, 3, 4, 0] rfl rfl rfl rfl) (q_call rfl rfl rfl rfl rfl (fun w => Tryz.call24 _ w) (v := .int .i64 (if (Sup.mk (x.gen + 1) (x.epoch + 1) x.pages start len 0 1).Ok (D.n : Int) then 0 else 1)) (cq (check_c (Sup.mk (x.gen + 1) (x.epoch + 1) x.pages start len 0 1) _ (by omega)) (by rintro _ _ ⟨rfl, rfl⟩; exact ⟨rfl, rfl⟩) 0 [] [] rfl rfl rfl rfl) (q_do rfl rfl rfl (d_neq rfl rfl rfl) (q_end (fun w H' => ?_)))))))))))))
  have H := H'.l7; clear H'; refine k_dec rfl (fun h2 => ?_) (fun h2 => ?_)
  ·refine k_seq (s_region (s_do rfl rfl rfl (d_assign rfl rfl) (s_end (k_ret (doneL rfl [.int .i64 1] ⟨rfl, trivial⟩ (v := .int .i64 1) rfl ?_))))); have H' := H.toPgs 5 rfl hpg
   have H := H'.l7; clear H'; have hn0 := hpg.nil_iff.1 (by simpa using h1)
   exact ⟨[blk ps [.pointer (some ⟨pd, 0, none⟩), .pointer (some ⟨pt, 0, none⟩), .int .i64 x.gen, .int .i64 x.epoch, .int .i64 x.pages, .int .i64 x.start, .int .i64 x.len, .int .i64 x.head, .int .i64 x.seq, .pointer (some ⟨pl, 0, none⟩), .map (some md), .bool false, mo] 67, blk pl [.pointer (some ⟨pd, 0, none⟩), .pointer (some ⟨pt, 0, none⟩), .int .i64 sL.gen, .int .i64 sL.epoch, .int .i64 sL.pages, .int .i64 sL.start, .int .i64 sL.len, .int .i64 sL.head, .int .i64 sL.seq, .int .i64 a, .int .i64 q, .int .i64 u, .bool b, .bool nu] 119, tblA pt, diskA pd D, pgsA md (ov rs) hq, poolA hq], .inr (.inl ⟨hn0, fun hk => absurd (if_pos hk) h2, rfl, rfl⟩), H.perm 7 [1, 2, 3, 4, 5, 6] rfl rfl⟩
  ·refine k_skip (k_seq (k_seq ?_)); have hoky : (swS x start len).Ok (D.n : Int) := Decidable.byContradiction fun g_ => h2 (fun e => absurd ((if_neg g_).symm.trans e) (by decide))
   replace H := H.f1; refine a_region (Sep z (blk ps [.pointer (some ⟨pd, 0, none⟩), .pointer (some ⟨pt, 0, none⟩), .int .i64 x.gen, .int .i64 x.epoch, .int .i64 x.pages, .int .i64 x.start, .int .i64 x.len, .int .i64 x.head, .int .i64 x.seq, .pointer (some ⟨pl, 0, none⟩), .map (some md), .bool false, mo] 67 :: blk b1 [.int .i64 (x.gen + 1), .int .i64 (x.epoch + 1), .int .i64 x.pages, .int .i64 start, .int .i64 len, .int .i64 0, .int .i64 1] 49 :: R)) 11 rfl (by kernel_rfl) (fun w' x' _ => ?_); have H' := H.ext0 x'; clear x' H; revert H'; generalize w' = w; intro H'
   have H := H'.l7; clear H'; refine a_do 0 rfl (by kernel_rfl) (by kernel_rfl) (by kernel_rfl) rfl rfl rfl (d_move rfl rfl) (H.pick 7 [0, 1] rfl) (a_do 1 rfl (by kernel_rfl) (by kernel_rfl) (by kernel_rfl) rfl rfl rfl (d_nilCheck rfl rfl) (H.pick 7 [0, 1] rfl) (a_do 2 rfl (by kernel_rfl) (by kernel_rfl) (by kernel_rfl) rfl rfl rfl (d_field rfl (k := 0) (r := 0) (by kernel_rfl) rfl rfl) (H.pick 7 [0, 1] rfl) (a_do 3 rfl (by kernel_rfl) (by kernel_rfl) (by kernel_rfl) rfl rfl rfl (d_load rfl rfl (by kernel_rfl) (fun _ hx => hx.cel 0 rfl 0 rfl)) (H.pick 7 [0, 1] rfl) (a_do 4 rfl (by kernel_rfl) (by kernel_rfl) (by kernel_rfl) rfl rfl rfl (d_move rfl rfl) (H.pick 7 [0, 1] rfl) (a_do 5 rfl (by kernel_rfl) (by kernel_rfl) (by kernel_rfl) rfl rfl rfl (d_nilCheck rfl rfl) (H.pick 7 [0, 1] rfl) (a_do 6 rfl (by kernel_rfl) (by kernel_rfl) (by kernel_rfl) rfl rfl rfl (d_field rfl (k := 1) (r := 1) (by kernel_rfl) rfl rfl) (H.pick 7 [0, 1] rfl) (a_do 7 rfl (by kernel_rfl) (by kernel_rfl) (by kernel_rfl) rfl rfl rfl (d_load rfl rfl (by kernel_rfl) (fun _ hx => hx.cel 0 rfl 1 rfl)) (H.pick 7 [0, 1] rfl) (a_do 8 rfl (by kernel_rfl) (by kernel_rfl) (by kernel_rfl) rfl rfl rfl (d_loadAgg rfl rfl (vs := [.int .i64 (x.gen + 1), .int .i64 (x.epoch + 1), .int .i64 x.pages, .int .i64 start, .int .i64 len, .int .i64 0, .int .i64 1]) (by kernel_rfl) (fun _ hx => (hx.blk 1 rfl).part 0 7 _ rfl)) (H.pick 7 [0, 1] rfl) (a_all [9] (by kernel_rfl) (by simp) (all1 (o_C rfl rfl rfl rfl rfl rfl (fun w => Tryz.call29 _ w) (save_c _ _ _ (swS x start len) hoky (fun i => by have := hver i; omega)) H.f3.f4 rfl ?_)))))))))))
   rintro _ w _ (⟨hsb, rfl, rfl⟩ | ⟨hsb, rfl, rfl⟩) H'
   ·have H := H'.l7; clear H'; refine a_and (H.pick 7 [2, 3] rfl) (a_do 10 rfl (by kernel_rfl) (by kernel_rfl) (by kernel_rfl) rfl rfl rfl (d_assign rfl rfl) (H.pick 7 [2, 3] rfl) (a_done (by kernel_rfl) (k_seq (s_region (s_do rfl rfl rfl (d_move rfl rfl) (s_do rfl rfl rfl (d_neq rfl rfl rfl) (k_updA 58 (u := .bool (decide ((11 : Int) ≠ 0))) (v := .bool true) rfl (congrArg Value.bool (by decide)) (s_end (k_true rfl (k_seq (s_region (s_do rfl rfl rfl (d_move rfl rfl) (s_do rfl rfl rfl (d_assign rfl rfl) ?_))))))))))))); refine s_end (k_ret (doneL rfl [.int .i64 11] ⟨rfl, trivial⟩ (v := .int .i64 11) rfl ?_)); have H' := H.toPgs 5 rfl hpg
    have H := H'.l7; clear H'; have hn0 := hpg.nil_iff.1 (by simpa using h1)
    exact ⟨[blk ps [.pointer (some ⟨pd, 0, none⟩), .pointer (some ⟨pt, 0, none⟩), .int .i64 x.gen, .int .i64 x.epoch, .int .i64 x.pages, .int .i64 x.start, .int .i64 x.len, .int .i64 x.head, .int .i64 x.seq, .pointer (some ⟨pl, 0, none⟩), .map (some md), .bool false, mo] 67, blk pl [.pointer (some ⟨pd, 0, none⟩), .pointer (some ⟨pt, 0, none⟩), .int .i64 sL.gen, .int .i64 sL.epoch, .int .i64 sL.pages, .int .i64 sL.start, .int .i64 sL.len, .int .i64 sL.head, .int .i64 sL.seq, .int .i64 a, .int .i64 q, .int .i64 u, .bool b, .bool nu] 119, tblA pt, diskA pd D.wf, pgsA md (ov rs) hq, poolA hq], .inr (.inr (.inl ⟨hn0, hoky, hsb, rfl, rfl⟩)), H.perm 7 [2, 4, 1, 0, 5, 6] rfl rfl⟩
   ·have H := H'.l7; clear H'; refine a_and (H.pick 7 [2, 3] rfl) (a_do 10 rfl (by kernel_rfl) (by kernel_rfl) (by kernel_rfl) rfl rfl rfl (d_assign rfl rfl) (H.pick 7 [2, 3] rfl) (a_done (by kernel_rfl) (k_seq (s_region (s_do rfl rfl rfl (d_move rfl rfl) (s_do rfl rfl rfl (d_neq rfl rfl rfl) (k_updA 58 (u := .bool (decide ((0 : Int) ≠ 0))) (v := .bool false) rfl (congrArg Value.bool (by decide)) (s_end (k_false rfl (k_skip (k_seq (s_region (s_do rfl rfl rfl (d_move rfl rfl) ?_))))))))))))); refine s_do rfl rfl rfl (d_loadAgg rfl rfl (vs := [.int .i64 (x.gen + 1), .int .i64 (x.epoch + 1), .int .i64 x.pages, .int .i64 start, .int .i64 len, .int .i64 0, .int .i64 1]) (by kernel_rfl) (here ((H.blk 3 rfl).part 0 7 _ rfl))) (s_do rfl rfl rfl (d_nilCheck rfl rfl) (s_do rfl rfl rfl (d_field rfl (k := 2) (r := 2) (by kernel_rfl) rfl rfl) (s_put rfl rfl (n_store 2 H rfl rfl rfl rfl (vs := [.int .i64 (x.gen + 1), .int .i64 (x.epoch + 1), .int .i64 x.pages, .int .i64 start, .int .i64 len, .int .i64 0, .int .i64 1]) rfl (by simp [u8, u32, Value.oneCell']) (by kernel_rfl) (by simp) (out := [.pointer (some ⟨pd, 0, none⟩), .pointer (some ⟨pt, 0, none⟩), .int .i64 (x.gen + 1), .int .i64 (x.epoch + 1), .int .i64 x.pages, .int .i64 start, .int .i64 len, .int .i64 0, .int .i64 1, .pointer (some ⟨pl, 0, none⟩), .map (some md), .bool false, mo]) rfl) ?_))); rintro w H'; have H := H'.l7; clear H'; refine s_end (k_seq ?_); replace H := H.f3.f3; refine l_region (Sep z (blk ps [.pointer (some ⟨pd, 0, none⟩), .pointer (some ⟨pt, 0, none⟩), .int .i64 (x.gen + 1), .int .i64 (x.epoch + 1), .int .i64 x.pages, .int .i64 start, .int .i64 len, .int .i64 0, .int .i64 1, .pointer (some ⟨pl, 0, none⟩), .map (some md), .bool false, mo] 67 :: blk b1 [.int .i64 (x.gen + 1), .int .i64 (x.epoch + 1), .int .i64 x.pages, .int .i64 start, .int .i64 len, .int .i64 0, .int .i64 1] 49 :: R)) 14 rfl (by kernel_rfl) (fun w' x' _ => ?_)
    have H' := H.ext0 x'; clear x' H; revert H'; generalize w' = w; intro H'
    have H := H'.l7; clear H'; refine l_do 0 (by kernel_rfl) rfl rfl (by kernel_rfl) (by kernel_rfl) (by kernel_rfl) rfl rfl rfl (d_move rfl rfl) (H.pick 7 [0, 1] rfl) (l_do 1 (by kernel_rfl) rfl rfl (by kernel_rfl) (by kernel_rfl) (by kernel_rfl) rfl rfl rfl (d_move rfl rfl) (H.pick 7 [0, 1] rfl) (l_do 2 (by kernel_rfl) rfl rfl (by kernel_rfl) (by kernel_rfl) (by kernel_rfl) rfl rfl rfl (d_nilCheck rfl rfl) (H.pick 7 [0, 1] rfl) (l_do 3 (by kernel_rfl) rfl rfl (by kernel_rfl) (by kernel_rfl) (by kernel_rfl) rfl rfl rfl (d_field rfl (k := 0) (r := 0) (by kernel_rfl) rfl rfl) (H.pick 7 [0, 1] rfl) (l_do 4 (by kernel_rfl) rfl rfl (by kernel_rfl) (by kernel_rfl) (by kernel_rfl) rfl rfl rfl (d_load rfl rfl (by kernel_rfl) (fun _ hx => hx.cel 0 rfl 0 rfl)) (H.pick 7 [0, 1] rfl) (l_do 5 (by kernel_rfl) rfl rfl (by kernel_rfl) (by kernel_rfl) (by kernel_rfl) rfl rfl rfl (d_move rfl rfl) (H.pick 7 [0, 1] rfl) (l_do 6 (by kernel_rfl) rfl rfl (by kernel_rfl) (by kernel_rfl) (by kernel_rfl) rfl rfl rfl (d_nilCheck rfl rfl) (H.pick 7 [0, 1] rfl) (l_do 7 (by kernel_rfl) rfl rfl (by kernel_rfl) (by kernel_rfl) (by kernel_rfl) rfl rfl rfl (d_field rfl (k := 1) (r := 1) (by kernel_rfl) rfl rfl) (H.pick 7 [0, 1] rfl) (l_do 8 (by kernel_rfl) rfl rfl (by kernel_rfl) (by kernel_rfl) (by kernel_rfl) rfl rfl rfl (d_load rfl rfl (by kernel_rfl) (fun _ hx => hx.cel 0 rfl 1 rfl)) (H.pick 7 [0, 1] rfl) (l_do 9 (by kernel_rfl) rfl rfl (by kernel_rfl) (by kernel_rfl) (by kernel_rfl) rfl rfl rfl (d_loadAgg rfl rfl (vs := [.int .i64 (x.gen + 1), .int .i64 (x.epoch + 1), .int .i64 x.pages, .int .i64 start, .int .i64 len, .int .i64 0, .int .i64 1]) (by kernel_rfl) (fun _ hx => (hx.blk 1 rfl).part 0 7 _ rfl)) (H.pick 7 [0, 1] rfl) (l_all [10] (by kernel_rfl) (by simp) (all1 (o_C rfl rfl rfl rfl rfl rfl (fun w => Tryz.call33 _ w) (lnewD_c _ _ _ (swS x start len) (by exact hoky)) H.f2 rfl ?_))))))))))))
    rintro _ w _ ⟨pl2, rfl, rfl⟩ H'; have H := H'.l8; clear H'; refine l_and (fun _ => (H.pick 8 [2, 3] rfl)) (l_do 11 (by kernel_rfl) rfl rfl (by kernel_rfl) (by kernel_rfl) (by kernel_rfl) rfl rfl rfl (d_nilCheck rfl rfl) (H.pick 8 [2, 3] rfl) (l_do 12 (by kernel_rfl) rfl rfl (by kernel_rfl) (by kernel_rfl) (by kernel_rfl) rfl rfl rfl (d_field rfl (k := 9) (r := 9) (by kernel_rfl) rfl rfl) (H.pick 8 [2, 3] rfl) (l_all [13] (by kernel_rfl) (by simp) (all1 (o_put rfl rfl rfl (n_store 2 H rfl rfl rfl rfl (vs := [.pointer (some ⟨pl2, 0, none⟩)]) rfl (by simp [u8, u32, Value.oneCell']) (by kernel_rfl) (by simp) (out := [.pointer (some ⟨pd, 0, none⟩), .pointer (some ⟨pt, 0, none⟩), .int .i64 (x.gen + 1), .int .i64 (x.epoch + 1), .int .i64 x.pages, .int .i64 start, .int .i64 len, .int .i64 0, .int .i64 1, .pointer (some ⟨pl2, 0, none⟩), .map (some md), .bool false, mo]) rfl) ?_))))); rintro w H'; have H := H'.l8; clear H'; refine l_and (fun h => absurd rfl h) (l_done (by kernel_rfl) (k_seq (s_region (s_do rfl rfl rfl (d_assign rfl rfl) (s_end (k_ret (doneL rfl [.int .i64 0] ⟨rfl, trivial⟩ (v := .int .i64 0) rfl ?_))))))); have H' := H.toPgs 6 rfl hpg
    have H := H'.l8; clear H'; have hn0 := hpg.nil_iff.1 (by simpa using h1)
    exact ⟨[blk ps [.pointer (some ⟨pd, 0, none⟩), .pointer (some ⟨pt, 0, none⟩), .int .i64 (x.gen + 1), .int .i64 (x.epoch + 1), .int .i64 x.pages, .int .i64 start, .int .i64 len, .int .i64 0, .int .i64 1, .pointer (some ⟨pl2, 0, none⟩), .map (some md), .bool false, mo] 67, blk pl2 [.pointer (some ⟨pd, 0, none⟩), .pointer (some ⟨pt, 0, none⟩), .int .i64 ((swS x start len).gen), .int .i64 ((swS x start len).epoch), .int .i64 ((swS x start len).pages), .int .i64 ((swS x start len).start), .int .i64 ((swS x start len).len), .int .i64 ((swS x start len).head), .int .i64 ((swS x start len).seq), .int .i64 ((swS x start len).head), .int .i64 ((swS x start len).seq), .int .i64 0, .bool false, .bool (decide ((swS x start len).epoch < 4294967296))] 119, tblA pt, diskA pd (svD D (swS x start len)), pgsA md (ov rs) hq, poolA hq], .inr (.inr (.inr ⟨hn0, hoky, hsb, _, hS.switched he1 hn0 hqb hoky, rfl, rfl⟩)), H.perm 8 [2, 0, 4, 1, 6, 7] rfl rfl⟩
end Go.Proofs.YtkobdhlkgmjhbaaGreatDoor
namespace Go.Proofs.YtkobdhlkgmjhbaaGreatDoor
structure StG where
  x : Sup
  B : Nat → Pg
  rs : List Rc
  ptl : List (List UInt8)
  a : Int
  q : Int
  u : Int
  b : Bool
  sure : Nat
def StG.M (G : StG) : Nat → Pg := pgMap (ov G.rs) G.B
def StG.home (G : StG) : Prop := ∀ n, ov G.rs n = none
structure StX where
  pl : Nat
  pt : Nat
  md : Nat
  mm : Nat
  sL : Sup
  nu : Bool
  hq : Hp
abbrev Txn := Option (Pgs × Nat)
def ownV (mm : Nat) : Txn → Value
  | none => .map none
  | some _ => .map (some mm)
def ownL (mm : Nat) (hq : Hp) : Txn → List Asn
  | none => []
  | some o => [pgsC mm o.1 o.2 hq]
abbrev stoB (ps pd pt md : Nat) (x : Sup) (lp : Value) (un : Bool) (mo : Value) : Asn := blk ps [.pointer (some ⟨pd, 0, none⟩), .pointer (some ⟨pt, 0, none⟩), .int .i64 x.gen, .int .i64 x.epoch, .int .i64 x.pages, .int .i64 x.start, .int .i64 x.len, .int .i64 x.head, .int .i64 x.seq, lp, .map (some md), .bool un, mo] 67
abbrev logB (pl pd pt : Nat) (sL : Sup) (a q u : Int) (b nu : Bool) : Asn := blk pl [.pointer (some ⟨pd, 0, none⟩), .pointer (some ⟨pt, 0, none⟩), .int .i64 sL.gen, .int .i64 sL.epoch, .int .i64 sL.pages, .int .i64 sL.start, .int .i64 sL.len, .int .i64 sL.head, .int .i64 sL.seq, .int .i64 a, .int .i64 q, .int .i64 u, .bool b, .bool nu] 119
def stoL (ps pd : Nat) (D : Dsk) (G : StG) (own : Txn) (X : StX) : List Asn :=
  [stoB ps pd X.pt X.md G.x (.pointer (some ⟨X.pl, 0, none⟩)) own.isSome (ownV X.mm own), logB X.pl pd X.pt X.sL G.a G.q G.u G.b X.nu, tblA X.pt, diskA pd D, pgsA X.md (ov G.rs) X.hq, poolA X.hq] ++ ownL X.mm X.hq own
structure StP (D : Dsk) (G : StG) (own : Txn) (X : StX) : Prop where
  inv : SInv D G.x G.B G.rs G.ptl G.a G.q G.u G.b G.sure
  l : X.sL.start = G.x.start ∧ X.sL.len = G.x.len ∧ X.sL.epoch = G.x.epoch
  ok : X.sL.Ok (D.n : Int)
  nu : X.nu = decide (X.sL.epoch < 4294967296)
  own : ∀ o, own = some o → o.2 ≤ 40 ∧ ∀ n, (o.1 n).isSome = true → (n : Int) < G.x.pages
def stoA (ps pd : Nat) (D : Dsk) (G : StG) (own : Txn) : Asn := fun h => ∃ X, StP D G own X ∧ seps (stoL ps pd D G own X) h
structure Fine (D : Dsk) (G : StG) (m : Nat) : Prop where
  clean : Clean D
  b : G.b = false
  ver : ∀ i, (D.ver i).length ≤ m
  gen : G.x.gen ≤ m
  epoch : G.x.epoch ≤ m
  q : G.q ≤ m
theorem Fine.le {D : Dsk} {G : StG} {m m' : Nat} (h : Fine D G m) (e : m ≤ m') : Fine D G m' :=
  ⟨h.clean, h.b, fun i => Nat.le_trans (h.ver i) e, by have := h.gen; omega, by have := h.epoch; omega, by have := h.q; omega⟩
variable {z w : World} {Γ : List Asn} {ps pd : Nat} {D : Dsk} {G : StG} {own : Txn}
theorem Sep.sto (H : Sep z (stoA ps pd D G own :: Γ) w) : ∃ X, StP D G own X ∧ Sep z (stoL ps pd D G own X ++ Γ) w :=
  H.into (p := fun X => StP D G own X) (As := fun X => stoL ps pd D G own X) (fun _ q => q)
theorem Sep.toSto {X : StX} (n : Nat) (H : Sep z Γ w) (hX : StP D G own X) (hn : Γ.take n = stoL ps pd D G own X) : Sep z (stoA ps pd D G own :: Γ.drop n) w :=
  H.made n (fun h q => ⟨X, hX, by rwa [hn] at q⟩)
theorem stoA.inv {h : Hp} (a : stoA ps pd D G own h) : SInv D G.x G.B G.rs G.ptl G.a G.q G.u G.b G.sure := by
  obtain ⟨X, hX, _⟩ := a; exact hX.inv
theorem stoA.txn {h : Hp} {o : Pgs × Nat} (a : stoA ps pd D G (some o) h) : o.2 ≤ 40 ∧ ∀ n, (o.1 n).isSome = true → (n : Int) < G.x.pages := by
  obtain ⟨X, hX, _⟩ := a; exact hX.own o rfl
def curPg (M : Nat → Pg) : Txn → Nat → Pg
  | none, n => M n
  | some o, n => (o.1 n).getD (M n)
def opG (x : Sup) (B : Nat → Pg) : StG := ⟨opS x, B, [], [], 0, 1, 0, false, 0⟩
theorem open_s (pd : Nat) (D : Dsk) (x : Sup) (B : Nat → Pg) (Gd : List Rc → Prop) (m : Nat) (hO : OInv D x B Gd) (hcl : Clean D) (hg : x.gen ≤ m ∧ x.epoch ≤ m) (hm : m ≤ 1000000000) :
    Cn Tryz.prog 9 [.pointer (some ⟨pd, 0, none⟩)] [diskA pd D] (fun v Γ => ∃ (ps : Nat) (D2 : Dsk) (got : List Rc), Gd got ∧ Fine D2 (opG x (pgMap (ov got) B)) (m + 1) ∧ D2.n = D.n ∧ v = .tuple #[.pointer (some ⟨ps, 0, none⟩), .int .i64 0] ∧ Γ = [stoA ps pd D2 (opG x (pgMap (ov got) B)) none]) := by
  intro z R w H
  refine Ret.mono (sopen_c pd D x B Gd hO hcl (by omega) (by omega) z R w H) ?_
  rintro v w' ⟨Γ', ⟨ps, pl, pt, md, hq, D2, got, h1, h2, h3, h4, h5, rfl, rfl⟩, H'⟩
  refine ⟨_, ⟨ps, D2, got, h1, ⟨h3, rfl, fun i => by rw [h5]; simp, ?_, ?_, ?_⟩, h4, rfl, rfl⟩, H'.toSto (X := ⟨pl, pt, md, 0, opS x, decide ((opS x).epoch < 4294967296), hq⟩) 6 ⟨h2, ⟨rfl, rfl, rfl⟩, h2.ok, rfl, fun o e => (by cases e)⟩ rfl⟩
  · show x.gen + 1 ≤ _; omega
  · show x.epoch + 1 ≤ _; omega
  · show (1 : Int) ≤ _; omega
theorem begin_s (ps pd : Nat) (D : Dsk) (G : StG) : Cn Tryz.prog 11 [.pointer (some ⟨ps, 0, none⟩)] [stoA ps pd D G none] (fun v Γ => v = .int .i64 0 ∧ Γ = [stoA ps pd D G (some (noPgs, 0))]) := by
  intro z R w H
  obtain ⟨X, hX, H⟩ := H.sto
  refine Ret.mono (Cn.at (begin_c ps pd X.pt X.md G.x _ _) H 6 [0, 1, 2, 3, 4, 5] rfl rfl) ?_
  rintro v w' ⟨Γ', ⟨rfl, m, rfl⟩, H'⟩
  have H2 := H'.mono 1 (B := pgsC m noPgs 0 X.hq) rfl (fun h q => ⟨[], 0, PgsIn.none _ _, rfl, q⟩)
  have H3 := H2.pick 7 [0, 2, 3, 4, 5, 6, 1] rfl
  exact ⟨_, ⟨rfl, rfl⟩, H3.toSto (X := ⟨X.pl, X.pt, X.md, m, X.sL, X.nu, X.hq⟩) 7 ⟨hX.inv, hX.l, hX.ok, hX.nu, fun o e => by cases e; exact ⟨by omega, fun n h => (by cases h)⟩⟩ rfl⟩
theorem abort_s (ps pd : Nat) (D : Dsk) (G : StG) (own : Txn) : Cn Tryz.prog 14 [.pointer (some ⟨ps, 0, none⟩)] [stoA ps pd D G own] (fun v Γ => v = .tuple #[] ∧ Γ = [stoA ps pd D G none]) := by
  intro z R w H
  obtain ⟨X, hX, H⟩ := H.sto
  have H2 : Sep z (stoB ps pd X.pt X.md G.x (.pointer (some ⟨X.pl, 0, none⟩)) own.isSome (ownV X.mm own) :: logB X.pl pd X.pt X.sL G.a G.q G.u G.b X.nu :: tblA X.pt :: diskA pd D :: pgsA X.md (ov G.rs) X.hq :: poolA X.hq :: R) w := by
    cases own with
    | none => exact H
    | some o => exact H.pick 7 [0, 1, 2, 3, 4, 5] rfl
  refine Ret.mono (Cn.at (abort_c ps pd X.pt X.md G.x _ _ _) H2 6 [0, 1, 2, 3, 4, 5] rfl rfl) ?_
  rintro v w' ⟨Γ', ⟨rfl, rfl⟩, H'⟩
  exact ⟨_, ⟨rfl, rfl⟩, H'.toSto (X := X) 6 ⟨hX.inv, hX.l, hX.ok, hX.nu, fun o e => (by cases e)⟩ rfl⟩
theorem super_s (ps pd : Nat) (D : Dsk) (G : StG) (own : Txn) : Cn Tryz.prog 21 [.pointer (some ⟨ps, 0, none⟩)] [stoA ps pd D G own] (fun v Γ => v = .agg #[.int .i64 G.x.gen, .int .i64 G.x.epoch, .int .i64 G.x.pages, .int .i64 G.x.start, .int .i64 G.x.len, .int .i64 G.x.head, .int .i64 G.x.seq] ∧ Γ = [stoA ps pd D G own]) := by
  intro z R w H
  obtain ⟨X, hX, H⟩ := H.sto
  cases own with
  | none =>
    refine Ret.mono (Cn.at (super_c ps pd X.pt X.md G.x _ _ _) H 6 [0, 1, 2, 3, 4, 5] rfl rfl) ?_
    rintro v w' ⟨Γ', ⟨rfl, rfl⟩, H'⟩
    exact ⟨_, ⟨rfl, rfl⟩, H'.toSto (X := X) 6 hX rfl⟩
  | some o =>
    refine Ret.mono (Cn.at (super_c ps pd X.pt X.md G.x _ _ _) H 7 [0, 1, 2, 3, 4, 5, 6] rfl rfl) ?_
    rintro v w' ⟨Γ', ⟨rfl, rfl⟩, H'⟩
    exact ⟨_, ⟨rfl, rfl⟩, H'.toSto (X := X) 7 hX rfl⟩
theorem dirty_s (ps pd : Nat) (D : Dsk) (G : StG) (own : Txn) : Cn Tryz.prog 19 [.pointer (some ⟨ps, 0, none⟩)] [stoA ps pd D G own] (fun v Γ => ∃ ks : List Int, KsOk (ov G.rs) ks ∧ Γ = [grow 3 1 v ks.length (ks.map (Value.int .i64)), stoA ps pd D G own]) := by
  intro z R w H
  obtain ⟨X, hX, H⟩ := H.sto
  have hk := hX.inv.ok.2
  have hfb : ∀ n, (ov G.rs n).isSome = true → n < 1024 := fun n h => by have := hX.inv.ovb h; omega
  cases own with
  | none =>
    refine Ret.mono (Cn.at (sdirty_c ps pd X.pt X.md G.x _ _ _ (ov G.rs) X.hq hfb) H 6 [0, 4, 1, 2, 3, 5] rfl rfl) ?_
    rintro v w' ⟨Γ', ⟨ks, hks, rfl⟩, H'⟩
    have H3 := H'.pick 7 [1, 3, 4, 5, 2, 6, 0] rfl
    have H4 := H3.toSto (X := X) (ps := ps) (pd := pd) (D := D) (G := G) (own := none) 6 hX rfl
    exact ⟨_, ⟨ks, hks, rfl⟩, H4.pick 2 [1, 0] rfl⟩
  | some o =>
    refine Ret.mono (Cn.at (sdirty_c ps pd X.pt X.md G.x _ _ _ (ov G.rs) X.hq hfb) H 7 [0, 4, 1, 2, 3, 5, 6] rfl rfl) ?_
    rintro v w' ⟨Γ', ⟨ks, hks, rfl⟩, H'⟩
    have H3 := H'.pick 8 [1, 3, 4, 5, 2, 6, 7, 0] rfl
    have H4 := H3.toSto (X := X) (ps := ps) (pd := pd) (D := D) (G := G) (own := some o) 7 hX rfl
    exact ⟨_, ⟨ks, hks, rfl⟩, H4.pick 2 [1, 0] rfl⟩
theorem write_s (ps pd : Nat) (D : Dsk) (G : StG) (g : Pgs) (k : Nat) (n : Nat) (hn : (n : Int) < G.x.pages) (p : Pg) (hp : p.Ok) (bv : Value) (A : Asn) (hA : ∀ h, A h → rdH 1 bv 240 (p.body.map u8) h) :
    Cn Tryz.prog 12 [.pointer (some ⟨ps, 0, none⟩), .int .i64 (n : Int), .agg #[.int .i64 p.kind, bv]] [stoA ps pd D G (some (g, k)), A] (fun v Γ => ((g n = none ∧ 40 ≤ k) ∧ v = .int .i64 16 ∧ Γ = [stoA ps pd D G (some (g, k)), A]) ∨ (¬ (g n = none ∧ 40 ≤ k) ∧ v = .int .i64 0 ∧ Γ = [stoA ps pd D G (some (pgSet g n p, k + (if (g n).isSome then 0 else 1))), A])) := by
  intro z R w H
  obtain ⟨X, hX, H⟩ := H.sto
  obtain ⟨ho1, ho2⟩ := hX.own _ rfl
  refine Ret.mono (Cn.at (swrite_c ps pd X.pt X.md X.mm G.x _ g k X.hq n hn p hp bv A hA) H 8 [0, 6, 5, 7, 1, 2, 3, 4] rfl rfl) ?_
  rintro v w' ⟨Γ', (⟨h1, rfl, rfl⟩ | ⟨h1, hq2, hs, rfl, rfl⟩), H'⟩
  · have H3 := H'.pick 8 [0, 4, 5, 6, 7, 2, 1, 3] rfl
    exact ⟨_, .inl ⟨h1, rfl, rfl⟩, H3.toSto (X := X) (ps := ps) (pd := pd) (D := D) (G := G) (own := some (g, k)) 7 hX rfl⟩
  · have H3 := (H'.pick 8 [0, 4, 5, 6, 7, 2, 1, 3] rfl).mono 4 (B := pgsA X.md (ov G.rs) hq2) rfl (fun h q => pgsA.le hs h q)
    refine ⟨_, .inr ⟨h1, rfl, rfl⟩, H3.toSto (X := ⟨X.pl, X.pt, X.md, X.mm, X.sL, X.nu, hq2⟩) (ps := ps) (pd := pd) (D := D) (G := G) (own := some (pgSet g n p, k + (if (g n).isSome then 0 else 1))) 7 ⟨hX.inv, hX.l, hX.ok, hX.nu, fun o e => ?_⟩ rfl⟩
    cases e
    refine ⟨?_, fun i hi => ?_⟩
    · show k + (if (g n).isSome then 0 else 1) ≤ 40
      split
      · exact ho1
      · rename_i hs2
        have hgn : g n = none := by simpa using hs2
        have : ¬ 40 ≤ k := fun e => h1 ⟨hgn, e⟩
        omega
    · have hi' : (pgSet g n p i).isSome = true := hi
      unfold pgSet at hi'
      split at hi'
      · rename_i e; subst e; exact hn
      · exact ho2 i hi'
theorem read_s (ps pd : Nat) (D : Dsk) (G : StG) (own : Txn) (n : Nat) (hn : (n : Int) < G.x.pages) (hf1 : D.f1 = 0) (q : Pg) (hq : q = curPg G.M own n) :
    Cn Tryz.prog 16 [.pointer (some ⟨ps, 0, none⟩), .int .i64 (n : Int)] [stoA ps pd D G own] (fun v Γ => (q = noPg ∧ v = .tuple #[.agg #[.int .i64 0, .slice none 0 0], .int .i64 0] ∧ Γ = [stoA ps pd D G own]) ∨ (q.Ok ∧ ∃ v1, v = .tuple #[.agg #[.int .i64 q.kind, v1], .int .i64 0] ∧ Γ = [grow 5 1 v1 240 (q.body.map u8), stoA ps pd D G own])) := by
  intro z R w H
  obtain ⟨X, hX, H⟩ := H.sto
  cases own with
  | none =>
    refine Ret.mono (Cn.at (sreadN_c ps pd X.pt X.md G.x _ _ (ov G.rs) X.hq D n hn hf1 hX.inv.ok q (G.B n) hq (fun e => hX.inv.cur hn e)) H 6 [0, 2, 3, 4, 5, 1] rfl rfl) ?_
    rintro v w' ⟨Γ', (⟨h1, rfl, rfl⟩ | ⟨h1, v1, rfl, rfl⟩), H'⟩
    · have H3 := H'.pick 6 [0, 5, 1, 2, 3, 4] rfl
      exact ⟨_, .inl ⟨h1, rfl, rfl⟩, H3.toSto (X := X) (ps := ps) (pd := pd) (D := D) (G := G) (own := none) 6 hX rfl⟩
    · have H3 := H'.pick 7 [1, 6, 2, 3, 4, 5, 0] rfl
      have H4 := H3.toSto (X := X) (ps := ps) (pd := pd) (D := D) (G := G) (own := none) 6 hX rfl
      exact ⟨_, .inr ⟨h1, v1, rfl, rfl⟩, H4.pick 2 [1, 0] rfl⟩
  | some o =>
    refine Ret.mono (Cn.at (sreadO_c ps pd X.pt X.md X.mm G.x _ _ (ov G.rs) o.1 o.2 X.hq D n hn hf1 hX.inv.ok q (G.B n) (by rw [hq]; show (o.1 n).getD ((ov G.rs n).getD (G.B n)) = _; cases o.1 n <;> rfl) (fun e => hX.inv.cur hn (by cases h1 : o.1 n with | none => rw [h1] at e; exact e | some y => rw [h1] at e; cases e))) H 7 [0, 2, 3, 4, 6, 5, 1] rfl rfl) ?_
    rintro v w' ⟨Γ', (⟨h1, rfl, rfl⟩ | ⟨h1, v1, rfl, rfl⟩), H'⟩
    · have H3 := H'.pick 7 [0, 6, 1, 2, 3, 5, 4] rfl
      exact ⟨_, .inl ⟨h1, rfl, rfl⟩, H3.toSto (X := X) (ps := ps) (pd := pd) (D := D) (G := G) (own := some o) 7 hX rfl⟩
    · have H3 := H'.pick 8 [1, 7, 2, 3, 4, 6, 5, 0] rfl
      have H4 := H3.toSto (X := X) (ps := ps) (pd := pd) (D := D) (G := G) (own := some o) 7 hX rfl
      exact ⟨_, .inr ⟨h1, v1, rfl, rfl⟩, H4.pick 2 [1, 0] rfl⟩
theorem commit_s (ps pd : Nat) (D : Dsk) (G : StG) (g : Pgs) (k m : Nat) (hF : Fine D G m) (hm : m ≤ 1000000000) :
    Cn Tryz.prog 15 [.pointer (some ⟨ps, 0, none⟩)] [stoA ps pd D G (some (g, k))] (fun v Γ => ∃ (D2 : Dsk) (G2 : StG), Fine D2 G2 (m + 2) ∧ D2.n = D.n ∧ G2.M = curPg G.M (some (g, k)) ∧ (G2.x = G.x ∨ G2.x = ckS G.x G.a G.q) ∧ v = .int .i64 0 ∧ Γ = [stoA ps pd D2 G2 none]) := by
  intro z R w H
  obtain ⟨X, hX, H⟩ := H.sto
  obtain ⟨ho1, ho2⟩ := hX.own _ rfl
  have h1 := hF.gen
  have h2 := hF.epoch
  have h3 := hF.q
  have hL := hX.l
  have hc := ckS_f G.x G.a G.q
  refine Ret.mono (Cn.at (commit_c ps pd X.pt X.pl X.md X.mm G.x X.sL X.nu X.hq g k D G.B G.rs G.ptl G.a G.q G.u G.b G.sure hX.inv hX.l hX.ok hX.nu (by omega) (fun i => by have := hF.ver i; omega) ho2 ho1) H 7 [0, 1, 2, 3, 4, 6, 5] rfl rfl) ?_
  rintro v w' ⟨Γ', (⟨h4, rfl, rfl⟩ | ⟨h4, hq2, D2, x2, B2, rs2, a2, u2, sure2, hs, hS2, hM2, hx2, hcl2, hD2, rfl, rfl⟩ | ⟨_, c, hq2, D2, x2, B2, rs2, ptl2, a2, q2, u2, b2, sure2, hne, hw, _⟩), H'⟩
  · subst h4
    have hg : ∀ n, g n = none := H.says 6 rfl (fun h q => by obtain ⟨es, clk, h1, h2, _⟩ := q; exact h1.nil_iff.1 h2)
    exact ⟨_, ⟨D, G, hF.le (by omega), rfl, by funext n; show _ = (g n).getD _; rw [hg]; rfl, .inl rfl, rfl, rfl⟩, H'.toSto (X := X) 6 ⟨hX.inv, hX.l, hX.ok, hX.nu, fun o e => (by cases e)⟩ rfl⟩
  · have hx3 : x2.start = G.x.start ∧ x2.len = G.x.len ∧ x2.epoch = G.x.epoch ∧ x2.gen ≤ G.x.gen + 1 ∧ G.x.gen ≤ x2.gen := by
      rcases hx2 with rfl | rfl
      · exact ⟨rfl, rfl, rfl, by omega, by omega⟩
      · exact ⟨rfl, rfl, rfl, by omega, by omega⟩
    refine ⟨_, ⟨D2, ⟨x2, B2, rs2, [], a2, G.q + 1, u2, false, sure2⟩, ⟨hcl2 hF.clean, rfl, fun i => by have := hD2.2 i; have := hF.ver i; omega, by show x2.gen ≤ _; omega, by show x2.epoch ≤ _; omega, by show G.q + 1 ≤ _; omega⟩, hD2.1, ?_, hx2, rfl, rfl⟩, H'.toSto (X := ⟨X.pl, X.pt, X.md, X.mm, X.sL, X.nu, hq2⟩) 6 ⟨hS2, by show X.sL.start = x2.start ∧ X.sL.len = x2.len ∧ X.sL.epoch = x2.epoch; omega, by rw [hD2.1]; exact hX.ok, hX.nu, fun o e => (by cases e)⟩ rfl⟩
    show pgMap (ov rs2) B2 = _
    rw [hM2, pgMap_ov]; rfl
  · rcases hw with g | g
    · exact absurd hF.clean g
    · omega
theorem sync_s (ps pd : Nat) (D : Dsk) (G : StG) (m : Nat) (hF : Fine D G m) : Cn Tryz.prog 39 [.pointer (some ⟨ps, 0, none⟩)] [stoA ps pd D G none] (fun v Γ => v = .int .i64 0 ∧ Fine D.fl { G with sure := G.rs.length } m ∧ Γ = [stoA ps pd D.fl { G with sure := G.rs.length } none]) := by
  intro z R w H
  obtain ⟨X, hX, H⟩ := H.sto
  refine Ret.mono (Cn.at (ssync_c ps pd X.pt X.md G.x _ _ D) H 6 [0, 3, 1, 2, 4, 5] rfl rfl) ?_
  rintro v w' ⟨Γ', (⟨h1, _⟩ | ⟨_, rfl, rfl⟩), H'⟩
  · exact absurd h1 hF.clean.flb
  · have H3 := H'.pick 6 [0, 2, 3, 1, 4, 5] rfl
    exact ⟨_, ⟨rfl, ⟨hF.clean.fl, hF.b, fun i => Nat.zero_le _, hF.gen, hF.epoch, hF.q⟩, rfl⟩, H3.toSto (X := X) 6 ⟨hX.inv.flush, hX.l, hX.ok, hX.nu, fun o e => (by cases e)⟩ rfl⟩
theorem checkpoint_s (ps pd : Nat) (D : Dsk) (G : StG) (m : Nat) (hF : Fine D G m) (hm : m ≤ 1000000000) :
    Cn Tryz.prog 18 [.pointer (some ⟨ps, 0, none⟩)] [stoA ps pd D G none] (fun v Γ => ∃ (D2 : Dsk) (G2 : StG), Fine D2 G2 (m + 1) ∧ D2.n = D.n ∧ G2.M = G.M ∧ G2.home ∧ ((G.home ∧ G2.x = G.x) ∨ (¬ G.home ∧ G2.x = ckS G.x G.a G.q)) ∧ v = .int .i64 0 ∧ Γ = [stoA ps pd D2 G2 none]) := by
  intro z R w H
  obtain ⟨X, hX, H⟩ := H.sto
  have h1 := hF.gen
  have h2 := hF.epoch
  have h3 := hF.q
  have hc := ckS_f G.x G.a G.q
  refine Ret.mono (Cn.at (check_pt_c ps pd X.pt X.pl X.md G.x X.sL _ X.nu X.hq D G.B G.rs G.ptl G.a G.q G.u G.b G.sure hX.inv hX.l (by omega) (fun i => by have := hF.ver i; omega)) H 6 [0, 1, 2, 3, 4, 5] rfl rfl) ?_
  rintro v w' ⟨Γ', (⟨hn, hb, hu, rfl, rfl⟩ | ⟨D2, hne, hS2, hcl2, hn2, hv2, rfl, rfl⟩ | ⟨c, D2, sure2, hne, hw, _⟩), H'⟩
  · exact ⟨_, ⟨D, G, hF.le (by omega), rfl, rfl, hn, .inl ⟨hn, rfl⟩, rfl, rfl⟩, H'.toSto (X := X) 6 hX rfl⟩
  · refine ⟨_, ⟨D2, ⟨ckS G.x G.a G.q, pgMap (ov G.rs) G.B, [], [], G.a, G.q, 0, false, 0⟩, ⟨hcl2 hF.clean, rfl, fun i => by rw [hv2]; simp, by show G.x.gen + 1 ≤ _; omega, by show G.x.epoch ≤ _; omega, by show G.q ≤ _; omega⟩, hn2, rfl, fun _ => rfl, .inr ⟨fun hh => hne ⟨hh, hF.b, ?_⟩, rfl⟩, rfl, rfl⟩, H'.toSto (X := X) 6 ⟨hS2, hX.l, by rw [hn2]; exact hX.ok, hX.nu, fun o e => (by cases e)⟩ rfl⟩
    have hr := ov_none hh (fun j r h => (hX.inv.p.recs j r h).2.1.1)
    have hu := hX.inv.p.fu
    have hl := hX.inv.s.head
    rw [hr] at hu
    have hu0 : G.u = 0 := hu
    omega
  · rcases hw with g | g
    · exact absurd hF.clean g
    · omega
def swG (G : StG) (s l : Int) : StG := ⟨swS G.x s l, G.B, [], [], 0, 1, 0, false, 0⟩
theorem switch_s (ps pd : Nat) (D : Dsk) (G : StG) (m : Nat) (hF : Fine D G m) (hm : m ≤ 1000000000) (s l : Int) :
    Cn Tryz.prog 23 [.pointer (some ⟨ps, 0, none⟩), .int .i64 s, .int .i64 l] [stoA ps pd D G none] (fun v Γ => (¬ G.home ∧ v = .int .i64 17 ∧ Γ = [stoA ps pd D G none]) ∨ (G.home ∧ ¬ (swS G.x s l).Ok (D.n : Int) ∧ v = .int .i64 1 ∧ Γ = [stoA ps pd D G none]) ∨ (G.home ∧ (swS G.x s l).Ok (D.n : Int) ∧ ∃ D2, Fine D2 (swG G s l) (m + 1) ∧ D2.n = D.n ∧ v = .int .i64 0 ∧ Γ = [stoA ps pd D2 (swG G s l) none])) := by
  intro z R w H
  obtain ⟨X, hX, H⟩ := H.sto
  have h1 := hF.gen
  have h2 := hF.epoch
  have h3 := hF.q
  refine Ret.mono (Cn.at (switch_c ps pd X.pt X.pl X.md G.x X.sL _ X.nu X.hq D G.B G.rs G.ptl G.a G.q G.u G.b G.sure hX.inv hX.l (by omega) (fun i => by have := hF.ver i; omega) s l (by omega)) H 6 [0, 1, 2, 3, 4, 5] rfl rfl) ?_
  rintro v w' ⟨Γ', (⟨hn, rfl, rfl⟩ | ⟨hn, hy, rfl, rfl⟩ | ⟨hn, hy, hb, _⟩ | ⟨hn, hy, _, pl2, hS2, rfl, rfl⟩), H'⟩
  · exact ⟨_, .inl ⟨hn, rfl, rfl⟩, H'.toSto (X := X) 6 hX rfl⟩
  · exact ⟨_, .inr (.inl ⟨hn, hy, rfl, rfl⟩), H'.toSto (X := X) 6 hX rfl⟩
  · exact absurd hb hF.clean.bad
  · have hr := ov_none hn (fun j r h => (hX.inv.p.recs j r h).2.1.1)
    have H4 := H'.mono 4 (B := pgsA X.md noPgs X.hq) rfl (fun h q => by rw [hr] at q; exact q)
    refine ⟨_, .inr (.inr ⟨hn, hy, _, ⟨hF.clean.sv _, rfl, fun i => ?_, by show G.x.gen + 1 ≤ _; omega, by show G.x.epoch + 1 ≤ _; omega, by show (1 : Int) ≤ _; omega⟩, rfl, rfl, rfl⟩), H4.toSto (X := ⟨pl2, X.pt, X.md, X.mm, swS G.x s l, decide ((swS G.x s l).epoch < 4294967296), X.hq⟩) 6 ⟨hS2, ⟨rfl, rfl, rfl⟩, hy, rfl, fun o e => (by cases e)⟩ rfl⟩
    by_cases e : i = ((swS G.x s l).gen % 2).toNat
    · rw [e, (sv_here D _).2]; simp
    · rw [(sv_out D _ i e).2]; have := hF.ver i; omega
theorem crash_s (ps pd : Nat) (D : Dsk) (G : StG) (own : Txn) (m : Nat) (hF : Fine D G m) (hm : m ≤ 1000000000) (v : Value) (pk : List Int) (A : Asn) (hA : ∀ h, A h → rdH 1 v pk.length (pk.map (Value.int .i64)) h) :
    Cn Tryz.prog 20 [.pointer (some ⟨pd, 0, none⟩), v] [stoA ps pd D G own, A] (fun v Γ => ∃ D2 : Dsk, Clean D2 ∧ D2.n = D.n ∧ OInv D2 G.x G.B (fun got => G.sure ≤ got.length ∧ got.length ≤ G.rs.length ∧ got = G.rs.take got.length) ∧ v = .tuple #[] ∧ Γ = [diskA pd D2, A]) := by
  intro z R w H
  obtain ⟨X, hX, H⟩ := H.sto
  have h3 := hF.q
  have H2 : Sep z (diskA pd D :: A :: R) w := by
    cases own with
    | none => exact H.pick 7 [3, 6] rfl
    | some o => exact H.pick 8 [3, 7] rfl
  refine Ret.mono (Cn.at (crash_c pd D v pk A hA (fun i => by have := hF.ver i; omega)) H2 2 [0, 1] rfl rfl) ?_
  rintro v w' ⟨Γ', ⟨D2, hc, hf, rfl, rfl⟩, H'⟩
  exact ⟨_, ⟨D2, ⟨hf.1, hf.2.1, hf.2.2.1, hf.2.2.2.1⟩, hc.n, hX.inv.crashed (by omega) hc, rfl, rfl⟩, H'⟩
end Go.Proofs.YtkobdhlkgmjhbaaGreatDoor
namespace Go.Proofs.YtkobdhlkgmjhbaaGreatDoor
open Go.RowKit
structure DdM where
  k0 : Int
  k1 : Int
  k2 : Int
  k3 : Int
  k4 : Int
  k5 : Int
abbrev i64In (x : Int) : Prop := -9223372036854775808 ≤ x ∧ x ≤ 9223372036854775807
def DdM.In (d : DdM) : Prop := i64In d.k0 ∧ i64In d.k1 ∧ i64In d.k4 ∧ i64In d.k5
abbrev DdE := DdM × Value
def DdE.cells (e : DdE) : List Value := [.int .i64 e.1.k0, .int .i64 e.1.k1, .int .i64 e.1.k2, .int .i64 e.1.k3, .int .i64 e.1.k4, .int .i64 e.1.k5, e.2]
def ddC (es : List DdE) : List Value := es.flatMap DdE.cells
theorem ddC_len (es : List DdE) : (ddC es).length = es.length * 7 := by
  induction es with
  | nil => rfl
  | cons e es ih => simp only [ddC, List.flatMap_cons, List.length_append] at ih ⊢; rw [ih]; simp [DdE.cells]; omega
theorem ddC_get : ∀ {es : List DdE} {j : Nat} {e : DdE}, es[j]? = some e → ∀ k u, (DdE.cells e)[k]? = some u → (ddC es)[j * 7 + k]? = some u
  | x :: es, 0, e, h, k, u, hk => by
    simp at h; subst h
    have hl := (List.getElem?_eq_some_iff.1 hk).1
    simp only [ddC, List.flatMap_cons]
    rw [List.getElem?_append_left (by omega)]; simpa using hk
  | x :: es, j + 1, e, h, k, u, hk => by
    have := ddC_get (es := es) (j := j) (by simpa using h) k u hk
    simp only [ddC, List.flatMap_cons] at this ⊢
    rw [List.getElem?_append_right (by simp [DdE.cells]; omega)]
    rw [show (j + 1) * 7 + k - (DdE.cells x).length = j * 7 + k from by simp [DdE.cells]; omega]
    exact this
abbrev Dds := List (DdE × List Int)
def ddsP (es : Dds) (h : Hp) : Prop := ∀ e ∈ es, rdH 1 e.1.2 e.2.length (e.2.map (Value.int .i64)) h ∧ e.1.1.In
def pgF (kd fl : Int) : Pg := ⟨kd, List.replicate 240 (byt fl)⟩
theorem pgF_ok {kd : Int} (fl : Int) (h : 1 ≤ kd ∧ kd ≤ 5) : (pgF kd fl).Ok := ⟨h, by simp [pgF]⟩
theorem pgF_len (kd fl : Int) : (pgF kd fl).body.length = 240 := by simp [pgF]
theorem fill_step (i : Nat) (x y : UInt8) (hi : i < 240) : ((List.replicate i x ++ List.replicate (240 - i) y).map u8).take i ++ [u8 x] ++ ((List.replicate i x ++ List.replicate (240 - i) y).map u8).drop (i + 1) = (List.replicate (i + 1) x ++ List.replicate (240 - (i + 1)) y).map u8 := by
  rw [List.map_append, List.take_append_of_le_length (by simp), List.take_of_length_le (by simp), List.drop_append, List.drop_of_length_le (by simp), List.nil_append]
  simp only [List.map_replicate, List.length_replicate, List.drop_replicate]
  rw [show 240 - i - (i + 1 - i) = 240 - (i + 1) from by omega, List.map_append, List.map_replicate, List.map_replicate, List.replicate_succ', List.append_assoc]
theorem fm_ok {n : Nat} {p s l : Int} (h : 16 ≤ p ∧ p ≤ 1024) (h1 : 2 + p ≤ s) (h2 : 64 ≤ l) (h3 : s + l ≤ n) (h4 : n ≤ 4096) : (fmS p s l 2).Ok (n : Int) :=
  Sup.ok_mk (by show 0 ≤ (2 : Int) ∧ (2 : Int) ≤ 1099511627776; omega) (by show 0 ≤ (1 : Int) ∧ (1 : Int) ≤ 1099511627776; omega) (by show 16 ≤ p ∧ p ≤ 1024; omega) (by show 2 + p ≤ s ∧ s ≤ 1099511627776; omega) (by show 64 ≤ l ∧ l ≤ 1099511627776; omega) (by show 0 ≤ (0 : Int) ∧ (0 : Int) < l; omega) (by show 0 ≤ (1 : Int) ∧ (1 : Int) ≤ 1099511627776; omega) (by show s ≤ n - l ∧ l ≤ n; omega)
theorem pick_c (c : Int) (N : Nat) (hc : i64In c) (hN : 0 < N ∧ N ≤ 1000000) : Cn Tryz.prog 10 [.int .i64 c, .int .i64 (N : Int)] [] (fun v Γ => ∃ n : Nat, n < N ∧ v = .int .i64 (n : Int) ∧ Γ = []) := by
 intro z R w H'; have H : Sep z (R) w := H'
 clear H'; refine enter Tryz.func10 rfl 13 Tryz.ntmps10 rfl (k_seq (s_region (s_do rfl rfl rfl (d_assign rfl rfl) (s_end (k_seq (k_seq (s_region (s_do rfl rfl rfl (d_move rfl rfl) (s_do rfl rfl rfl (d_lss rfl rfl rfl) (s_end (k_dec rfl (fun h1 => ?_) (fun h1 => ?_))))))))))))
 ·refine s_region (s_do rfl rfl rfl (d_move rfl rfl) (s_do rfl rfl rfl (d_add64 rfl rfl rfl (r := c + 1) (by omega) (by omega)) (s_do rfl rfl rfl (d_neg64 rfl rfl (r := -(c + 1)) (by omega) (by omega)) (s_do rfl rfl rfl (d_assign rfl rfl) (s_end (k_seq (s_region (s_do rfl rfl rfl (d_move rfl rfl) (s_do rfl rfl rfl (d_move rfl rfl) (s_do rfl rfl rfl (d_rem rfl rfl rfl (by omega)) ?_)))))))))); have hm1 := Int.tmod_lt_of_pos (-(c + 1)) (by omega : (0 : Int) < (N : Int))
  have hm2 := Int.tmod_nonneg (N : Int) (show 0 ≤ -(c + 1) by omega)
  refine s_do rfl rfl rfl (d_assign rfl rfl) (s_end (k_ret (doneL rfl [.int .i64 ((-(c + 1)).tmod (N : Int))] ⟨rfl, trivial⟩ (v := .int .i64 ((-(c + 1)).tmod (N : Int))) rfl ?_))); obtain ⟨n_, hn_⟩ : ∃ n_ : Nat, (n_ : Int) = (-(c + 1)).tmod (N : Int) := ⟨((-(c + 1)).tmod (N : Int)).toNat, by omega⟩; exact ⟨[], ⟨n_, by omega, congrArg (Value.int .i64) hn_.symm, rfl⟩, H⟩
 ·refine k_skip (k_seq (s_region (s_do rfl rfl rfl (d_move rfl rfl) (s_do rfl rfl rfl (d_move rfl rfl) (s_do rfl rfl rfl (d_rem rfl rfl rfl (by omega)) ?_))))); have hm1 := Int.tmod_lt_of_pos c (by omega : (0 : Int) < (N : Int))
  have hm2 := Int.tmod_nonneg (N : Int) (show 0 ≤ c by omega)
  refine s_do rfl rfl rfl (d_assign rfl rfl) (s_end (k_ret (doneL rfl [.int .i64 (c.tmod (N : Int))] ⟨rfl, trivial⟩ (v := .int .i64 (c.tmod (N : Int))) rfl ?_))); obtain ⟨n_, hn_⟩ : ∃ n_ : Nat, (n_ : Int) = c.tmod (N : Int) := ⟨(c.tmod (N : Int)).toNat, by omega⟩; exact ⟨[], ⟨n_, by omega, congrArg (Value.int .i64) hn_.symm, rfl⟩, H⟩
theorem page_c (k0 k1 kd fl k5 : Int) (pv : Value) (hpv : pv.oneCell' = true) : Cn Tryz.prog 13 [.agg #[.int .i64 k0, .int .i64 k1, .int .i64 kd, .int .i64 fl, .int .i64 0, .int .i64 k5, pv]] [] (fun v Γ => ∃ b, v = .agg #[.int .i64 kd, .slice (some ⟨b, 0, none⟩) 240 240] ∧ Γ = [blk b ((pgF kd fl).body.map u8) 5]) := by
 intro z R w H'; have H : Sep z (R) w := H'
 clear H'; refine enter Tryz.func13 rfl 27 Tryz.ntmps13 rfl (k_seq (s_region (s_go rfl rfl rfl (n_box H rfl rfl (cs := [.int .i64 k0, .int .i64 k1, .int .i64 kd, .int .i64 fl, .int .i64 0, .int .i64 k5, pv]) rfl) ?_))); rintro _ w ⟨b1, rfl, H'⟩; have H := H'.l1; clear H'; refine s_go rfl rfl rfl (n_alloc (P := Tryz.prog) H rfl (zs := [.int .i64 0, .slice none 0 0]) (by kernel_rfl)) ?_; rintro _ w ⟨b2, rfl, H'⟩; have H := H'.l2; clear H'; refine s_end (k_seq (s_region (s_do rfl rfl rfl (d_assign rfl rfl) (s_end (k_seq (k_seq (s_region (s_do rfl rfl rfl (d_field rfl (k := 4) (r := 4) (by kernel_rfl) rfl rfl) (s_do rfl rfl rfl (d_load rfl rfl (by kernel_rfl) (here (H.cel 1 rfl 4 rfl))) (s_do rfl rfl rfl (d_eql rfl rfl rfl) (k_updA 8 (u := .bool (decide ((0 : Int) = 77))) (v := .bool false) rfl (congrArg Value.bool (by decide)) (s_end (k_false rfl ?_))))))))))))); refine k_skip (k_seq (s_region (s_do rfl rfl rfl (d_move rfl rfl) (s_go rfl rfl rfl (n_make (k := 240) H rfl (by kernel_rfl) (Elt.mk (P := Tryz.prog) (e := 5) (z := u8 0) (sz := 1) (by_ := 1) (by kernel_rfl) rfl (by omega) (by omega)) rfl rfl rfl (by omega)) ?_)))); rintro _ w ⟨b3, rfl, H'⟩; have H := H'.l3; clear H'; refine s_do rfl rfl rfl (d_assign rfl rfl) (s_end (k_seq (k_seq (s_region (s_do rfl rfl rfl (d_assign rfl rfl) (s_end (k_block ?_))))))); refine c_loop (σ := Nat) (fun i => [(5, .int .i64 (i : Int)), (1, .pointer (some ⟨b1, 0, none⟩)), (2, .pointer (some ⟨b2, 0, none⟩)), (4, .slice (some ⟨b3, 0, none⟩) 240 240)])
   (fun i w => Sep z (blk b3 ((List.replicate i (byt fl) ++ List.replicate (240 - i) (0 : UInt8)).map u8) 5 :: blk b2 [.int .i64 0, .slice none 0 0] 40 :: blk b1 [.int .i64 k0, .int .i64 k1, .int .i64 kd, .int .i64 fl, .int .i64 0, .int .i64 k5, pv] 34 :: R) w ∧ (i ≤ 240)) (fun i => 240 - i) 0
   (fun _ hF => (hF.cons (hF.cons (hF.cons (hF.cons hF.nil 4 _ _ rfl rfl) 2 _ _ rfl rfl) 1 _ _ rfl rfl) 5 _ _ rfl (by go_num))) ⟨(by simpa [u8] using H), by omega⟩ ?_
 clear H; rintro i w ⟨H', hI⟩; have H := H'.l3; clear H'; have hi := hI; clear hI
 refine k_seq (k_seq (s_region (s_do rfl rfl rfl (d_move rfl rfl) (s_do rfl rfl rfl (d_move rfl rfl) (s_do rfl rfl rfl (d_len rfl (z := 1) (by kernel_rfl) rfl) (s_do rfl rfl rfl (d_lss rfl rfl rfl) (s_end (k_dec rfl (fun h1 => ?_) (fun h1 => ?_)))))))))
 ·refine k_skip (k_seq (k_block (s_region (s_do rfl rfl rfl (d_move rfl rfl) (s_do rfl rfl rfl (d_move rfl rfl) (s_do rfl rfl rfl (d_field rfl (k := 3) (r := 3) (by kernel_rfl) rfl rfl) (s_do rfl rfl rfl (d_load rfl rfl (by kernel_rfl) (here (H.cel 2 rfl 3 rfl))) (s_do rfl rfl rfl (d_to8 rfl (by kernel_rfl) rfl) (s_do rfl rfl rfl (d_index rfl (z := 1) (j := i) (r := i) (by kernel_rfl) rfl rfl rfl (by omega) (by omega)) (s_put rfl rfl (n_store 0 H rfl rfl rfl rfl (vs := [u8 (byt fl)]) rfl (by simp [u8, u32, Value.oneCell']) (by kernel_rfl) (by simp; omega) (out := ((List.replicate (i + 1) (byt fl) ++ List.replicate (240 - (i + 1)) (0 : UInt8)).map u8)) (fill_step i _ _ (by omega))) ?_)))))))))); rintro w H'; have H := H'.l3; clear H'; refine s_end (s_region (s_do rfl rfl rfl (d_move rfl rfl) (s_do rfl rfl rfl (d_add64 rfl rfl rfl (r := (i : Int) + 1) (by omega) (by omega)) (s_do rfl rfl rfl (d_assign rfl rfl) (s_end ?_))))); intro _ hF; refine ⟨(i + 1), (hF.cons (hF.cons (hF.cons (hF.cons hF.nil 4 _ _ rfl rfl) 2 _ _ rfl rfl) 1 _ _ rfl rfl) 5 _ _ rfl (by go_num)), ⟨H, ?_⟩, ?_⟩
  ·omega
  ·omega
 ·obtain rfl : i = 240 := by omega
  refine k_exit (k_here (k_seq (s_region (s_do rfl rfl rfl (d_field rfl (k := 2) (r := 2) (by kernel_rfl) rfl rfl) (s_do rfl rfl rfl (d_load rfl rfl (by kernel_rfl) (here (H.cel 2 rfl 2 rfl))) (s_do rfl rfl rfl (d_move rfl rfl) (s_do rfl rfl rfl (d_build rfl rfl (out := [.int .i64 kd, .slice (some ⟨b3, 0, none⟩) 240 240]) (by kernel_rfl)) (s_put rfl rfl (n_store 1 H rfl rfl rfl rfl (vs := [.int .i64 kd, .slice (some ⟨b3, 0, none⟩) 240 240]) rfl (by simp [u8, u32, Value.oneCell']) (by kernel_rfl) (by simp) (out := [.int .i64 kd, .slice (some ⟨b3, 0, none⟩) 240 240]) rfl) ?_)))))))); rintro w H'; have H := H'.l3; clear H'; refine s_end (k_ret (doneL rfl [.agg #[.int .i64 kd, .slice (some ⟨b3, 0, none⟩) 240 240]] ⟨⟨_, _, rfl, run_loadBlk (by kernel_rfl) (H.blk 1 rfl) (vs := [.int .i64 kd, .slice (some ⟨b3, 0, none⟩) 240 240]) rfl⟩, trivial⟩ (v := .agg #[.int .i64 kd, .slice (some ⟨b3, 0, none⟩) 240 240]) rfl ?_)); rw [show (List.replicate 240 (byt fl) ++ List.replicate (240 - 240) (0 : UInt8)).map u8 = (pgF kd fl).body.map u8 from by simp [pgF]] at H; exact ⟨[blk b3 ((pgF kd fl).body.map u8) 5], ⟨b3, rfl, rfl⟩, H.perm 3 [0] rfl rfl⟩
end Go.Proofs.YtkobdhlkgmjhbaaGreatDoor
namespace Go.Proofs.YtkobdhlkgmjhbaaGreatDoor
open Go.ChangeShapes Go.WideShapes Go.ChangeAt Go.RowKit Go.Joins
theorem own : ownKnob Tryz.prog.godebug = none := by kernel_rfl
theorem laidOut : laidOutB Tryz.prog = true := by kernel_rfl
theorem int_cells : Tryz.prog.cellsOf 3 = 1 := by kernel_rfl
theorem cel_base {W : World} {b o : Nat} {v : Value} (hc : Cel b o v W) : ∀ h, base W h → celH h b o v := fun h hb => by
  unfold Cel World.cell? at hc
  cases hh : W.heap[b]? with
  | none => rw [hh] at hc; simp at hc
  | some o' =>
    rw [hh] at hc
    cases o' with
    | cells cs ty fr =>
      simp at hc
      have hlt : b < W.heap.size := by
        rcases Nat.lt_or_ge b W.heap.size with q | q
        · exact q
        · rw [Array.getElem?_eq_none q] at hh; cases hh
      exact ⟨cs, ty, fr, (hb b hlt).trans hh, hc⟩
    | _ => simp at hc
theorem rd_base {sz : Nat} {v : Value} {n : Nat} {xs : List Value} {W : World} (r : Rd sz v n xs W) : ∀ h, base W h → rdH sz v n xs h := fun h hb => by
  obtain ⟨ao, c, e, h1, h2, h3, h4⟩ := r
  exact ⟨ao, c, e, h1, h2, h3, fun j u hj => by
    obtain ⟨b, p, e', hc⟩ := h4 j u hj
    exact ⟨b, p, e', cel_base hc h hb⟩⟩
theorem open_rdB {H : Type} {enc : TypeId × Value → H} {W : World} {fuel : Nat} {v : Value} {d : DataW H} {p : List MemPlace} (h : DataW.trod enc Tryz.prog W 0 (fun _ => true) true fuel 32 [v] = some (d, p)) : ∃ xs : List Int, Rd 1 v xs.length (xs.map (Value.int .i64)) W ∧ xs.length ≤ Rows.uptoBulk d := by
  have hall : ∀ (l : List Int), l.length ≤ Rows.uptoBulkAll (lits (H := H) .i64 l) := fun l => by
    induction l with
    | nil => simp
    | cons x l ih => simp only [lits, List.map_cons, Rows.uptoBulkAll, Rows.uptoBulk, List.length_cons] at ih ⊢; omega
  rcases open_ints Tryz.underlying32 Tryz.underlying3 int_cells h with ⟨hcs, hx⟩ | ⟨a, len, cap, zs, hcs, _, hl, hm, hz, hx, hcell, _⟩
  · simp only [List.cons.injEq, and_true] at hcs; subst hcs; exact ⟨[], by simpa using Rd.nil 1 W, by simp⟩
  · simp only [List.cons.injEq, and_true] at hcs; subst hcs
    simp only [if_true] at hz
    have hd : d = .slice (lits .i64 (zs.take len)) (lits .i64 (zs.drop len)) := by have := congrArg Prod.fst hx; simpa using this
    refine ⟨zs.take len, ⟨some a, cap, by simp [hz, Nat.min_eq_left hl], by simp [hz, Nat.min_eq_left hl, hl], (by unfold maxLen at hm; omega), by simp, fun j u hj => ?_⟩, ?_⟩
    · rw [List.getElem?_map] at hj
      obtain ⟨y, hy, rfl⟩ := Option.map_eq_some_iff.1 hj
      have hjl : j < len := by
        have := (List.getElem?_eq_some_iff.1 hy).1
        simp at this; omega
      have hy' : zs[j]? = some y := by rw [List.getElem?_take] at hy; simpa [hjl] using hy
      have hc := hcell j (by omega)
      rw [show zs.getD j 0 = y from by simp [List.getD, hy']] at hc
      obtain ⟨b, off, spot⟩ := a
      have hspot : spot = none := by
        have h0 := hcell 0 (by omega)
        simpa [Addr.add] using World.cell?_spot h0
      subst hspot
      exact ⟨b, off, rfl, by unfold Cel; rw [← Go.WideShapes.add_plain]; exact hc⟩
    · rw [hd]; have := hall (zs.take len); simp only [Rows.uptoBulk]; omega
theorem Cn.run {P : Program} {f : FuncId} {args : List Value} {W : World} {u : Value} (h : Cn P f args [base W] (fun v Γ => v = u ∧ Γ = [base W])) : Calls P f args.toArray W (Ret fun v W' => v = u ∧ Ext No W W') := by
  refine Ret.mono (h W [] W (by simpa using Sep.start W)) ?_
  rintro v W' ⟨Γ, ⟨rfl, rfl⟩, H⟩
  exact ⟨rfl, Sep.done 0 H rfl⟩
def flatW : DataW Unit → List Value
  | .lit (.int k n) => [.int k n]
  | .agg parts => flatWs parts
  | _ => []
where flatWs : List (DataW Unit) → List Value
  | [] => []
  | d :: ds => flatW d ++ flatWs ds
def lay1 : Obj → Obj
  | .cells c t frozen => .cells (if c.size = 32 then (flatW Rows.laid_unicode_utf8_acceptRanges).toArray else (flatW Rows.laid_unicode_utf8_first).toArray) t frozen
  | o => o
noncomputable def laidWorld (os : Os) : World :=
  { World.holding Tryz.prog os ⟨#[], #[], []⟩ with heap := ((World.holding Tryz.prog os ⟨#[], #[], []⟩).heap.modify 0 lay1).modify 1 lay1 }
theorem dd_cells : Tryz.prog.cellsOf 34 = 7 := by kernel_rfl
theorem exists_list {α : Type} (P : Nat → α → Prop) : ∀ n, (∀ i, i < n → ∃ a, P i a) → ∃ l : List α, l.length = n ∧ ∀ i a, l[i]? = some a → P i a
  | 0, _ => ⟨[], rfl, fun i a h => by simp at h⟩
  | n + 1, h => by
    obtain ⟨l, hl, hp⟩ := exists_list P n (fun i hi => h i (by omega))
    obtain ⟨a, ha⟩ := h n (by omega)
    refine ⟨l ++ [a], by simp [hl], fun i b hb => ?_⟩
    rcases Nat.lt_or_ge i n with q | q
    · rw [List.getElem?_append_left (by omega)] at hb; exact hp i b hb
    · rw [List.getElem?_append_right (by omega)] at hb
      obtain rfl : i = n := by have := (List.getElem?_eq_some_iff.1 hb).1; simp at this; omega
      simp [hl] at hb; subst hb; exact ha
theorem wf_in {n : Int} (h : (Lit.int .i64 n).wf = true) : i64In n := by
  simp only [Lit.wf, Bool.and_eq_true, decide_eq_true_eq] at h
  have h1 : IntKind.i64.min = -9223372036854775808 := by decide
  have h2 : IntKind.i64.max = 9223372036854775807 := by decide
  rw [h1, h2] at h
  exact h
theorem open_dd {H : Type} {enc : TypeId × Value → H} {W : World} {fuel : Nat} {cs : List Value} {d : DataW H} {p : List MemPlace} (h : DataW.trod enc Tryz.prog W 0 (fun _ => true) true fuel 34 cs = some (d, p)) :
    ∃ e : DdE × List Int, cs = DdE.cells e.1 ∧ Rd 1 e.1.2 e.2.length (e.2.map (Value.int .i64)) W ∧ e.1.1.In := by
  obtain ⟨xs, n, rfl, hx, hl, hxl, hf⟩ := DataW.trod_struct Tryz.underlying34 h
  rw [dd_cells] at hl
  match cs, hl with
  | [c0, c1, c2, c3, c4, c5, c6], _ =>
    have f0 := hf 0 _ rfl
    have f1 := hf 1 _ rfl
    have f2 := hf 2 _ rfl
    have f3 := hf 3 _ rfl
    have f4 := hf 4 _ rfl
    have f5 := hf 5 _ rfl
    have f6 := hf 6 _ rfl
    match xs, hxl with
    | [y0, y1, y2, y3, y4, y5, y6], _ =>
      have k1 : Tryz.prog.cellsOf 32 = 1 := by kernel_rfl
      try dsimp only at f0
      try simp only [int_cells, k1, List.drop_zero, List.drop_succ_cons, List.take_succ_cons, List.take_zero, List.getElem?_cons_zero, List.getElem?_cons_succ] at f0
      try dsimp only at f1
      try simp only [int_cells, k1, List.drop_zero, List.drop_succ_cons, List.take_succ_cons, List.take_zero, List.getElem?_cons_zero, List.getElem?_cons_succ] at f1
      try dsimp only at f2
      try simp only [int_cells, k1, List.drop_zero, List.drop_succ_cons, List.take_succ_cons, List.take_zero, List.getElem?_cons_zero, List.getElem?_cons_succ] at f2
      try dsimp only at f3
      try simp only [int_cells, k1, List.drop_zero, List.drop_succ_cons, List.take_succ_cons, List.take_zero, List.getElem?_cons_zero, List.getElem?_cons_succ] at f3
      try dsimp only at f4
      try simp only [int_cells, k1, List.drop_zero, List.drop_succ_cons, List.take_succ_cons, List.take_zero, List.getElem?_cons_zero, List.getElem?_cons_succ] at f4
      try dsimp only at f5
      try simp only [int_cells, k1, List.drop_zero, List.drop_succ_cons, List.take_succ_cons, List.take_zero, List.getElem?_cons_zero, List.getElem?_cons_succ] at f5
      try dsimp only at f6
      try simp only [int_cells, k1, List.drop_zero, List.drop_succ_cons, List.take_succ_cons, List.take_zero, List.getElem?_cons_zero, List.getElem?_cons_succ] at f6
      obtain ⟨z0, e0, _, w0⟩ := DataW.trod_int Tryz.underlying3 f0
      obtain ⟨z1, e1, _, w1⟩ := DataW.trod_int Tryz.underlying3 f1
      obtain ⟨z2, e2, _, w2⟩ := DataW.trod_int Tryz.underlying3 f2
      obtain ⟨z3, e3, _, w3⟩ := DataW.trod_int Tryz.underlying3 f3
      obtain ⟨z4, e4, _, w4⟩ := DataW.trod_int Tryz.underlying3 f4
      obtain ⟨z5, e5, _, w5⟩ := DataW.trod_int Tryz.underlying3 f5
      obtain ⟨d6, p6⟩ := y6
      obtain ⟨ks, hr6, _⟩ := open_rdB (h := f6)
      have g0 := congrArg (fun l => l.headD .nilFunc) e0
      try simp at g0
      subst g0
      have g1 := congrArg (fun l => l.headD .nilFunc) e1
      try simp at g1
      subst g1
      have g2 := congrArg (fun l => l.headD .nilFunc) e2
      try simp at g2
      subst g2
      have g3 := congrArg (fun l => l.headD .nilFunc) e3
      try simp at g3
      subst g3
      have g4 := congrArg (fun l => l.headD .nilFunc) e4
      try simp at g4
      subst g4
      have g5 := congrArg (fun l => l.headD .nilFunc) e5
      try simp at g5
      subst g5
      exact ⟨((⟨z0, z1, z2, z3, z4, z5⟩, c6), ks), rfl, hr6, wf_in w0, wf_in w1, wf_in w4, wf_in w5⟩
theorem ddC_inv : ∀ (es : List DdE) (k : Nat) (u : Value), (ddC es)[k]? = some u → ∃ e, es[k / 7]? = some e ∧ (DdE.cells e)[k % 7]? = some u
  | [], k, u, h => by simp [ddC] at h
  | x :: es, k, u, h => by
    have hl : (DdE.cells x).length = 7 := rfl
    simp only [ddC, List.flatMap_cons] at h
    rcases Nat.lt_or_ge k 7 with q | q
    · rw [List.getElem?_append_left (by omega)] at h
      exact ⟨x, by rw [Nat.div_eq_of_lt q]; rfl, by rw [Nat.mod_eq_of_lt q]; exact h⟩
    · rw [List.getElem?_append_right (by omega), hl] at h
      obtain ⟨e, h1, h2⟩ := ddC_inv es (k - 7) u h
      refine ⟨e, ?_, ?_⟩
      · rw [show k / 7 = (k - 7) / 7 + 1 from by omega]; simpa using h1
      · rw [show k % 7 = (k - 7) % 7 from by omega]; exact h2
theorem bulk_one {H : Type} (d : DataW H) : 1 ≤ Rows.uptoBulk d := by
  cases d with
  | lit l => cases l <;> simp [Rows.uptoBulk]
  | nil => simp [Rows.uptoBulk]
  | ptr d => simp [Rows.uptoBulk]
  | slice elems spare => simp [Rows.uptoBulk]
  | agg parts => simp [Rows.uptoBulk]
  | iface t d => simp [Rows.uptoBulk]
  | map entries => simp [Rows.uptoBulk]
  | held h => simp [Rows.uptoBulk]
theorem bulk_len {H : Type} (l : List (DataW H)) : l.length ≤ Rows.uptoBulkAll l := by
  induction l with
  | nil => simp
  | cons x r ih => have := bulk_one x; simp only [Rows.uptoBulkAll, List.length_cons]; omega
theorem open_dds {H : Type} {enc : TypeId × Value → H} {W : World} {fuel : Nat} {v : Value} {d : DataW H} {p : List MemPlace} (h : DataW.trod enc Tryz.prog W 0 (fun _ => true) true fuel 22 [v] = some (d, p)) :
    ∃ es : Dds, Rd 7 v es.length (ddC (es.map Prod.fst)) W ∧ (∀ e ∈ es, Rd 1 e.1.2 e.2.length (e.2.map (Value.int .i64)) W ∧ e.1.1.In) ∧ es.length ≤ Rows.uptoBulk d := by
  rcases DataW.trod_slice Tryz.underlying22 h with ⟨hcs, _⟩ | ⟨a, len, cap, elems, rest, n, rfl, hcs, hx, _, hlc, hcm, hel, hg, _, _⟩
  · simp only [List.cons.injEq, and_true] at hcs; subst hcs
    exact ⟨[], by simpa [ddC] using Rd.nil 7 W, fun e he => absurd he (by simp), by simp⟩
  · simp only [List.cons.injEq, and_true] at hcs; subst hcs
    have hd : d = .slice (elems.map (·.1)) (rest.map (·.1)) := by have := congrArg Prod.fst hx; simpa using this
    obtain ⟨es, hes, hP⟩ := exists_list (fun i (e : DdE × List Int) => (∀ j, j < 7 → W.cell? ((a.add (i * 7)).add j) = (DdE.cells e.1)[j]?) ∧ Rd 1 e.1.2 e.2.length (e.2.map (Value.int .i64)) W ∧ e.1.1.In) len (fun i hi => by
      have hb := hg i hi
      rw [dd_cells] at hb
      obtain ⟨y, hy⟩ : ∃ y, elems[i]? = some y := ⟨_, List.getElem?_eq_getElem (by omega)⟩
      rw [hy, Option.bind_eq_some_iff] at hb
      obtain ⟨cs, hc, ht⟩ := hb
      obtain ⟨e, rfl, h1, h2⟩ := open_dd (d := y.1) (p := y.2) ht
      exact ⟨e, (World.cells?_some hc).2.2, h1, h2⟩)
    refine ⟨es, ⟨some a, cap, by rw [hes], by omega, (by unfold maxLen at hcm; omega), by rw [ddC_len, List.length_map], fun k u hk => ?_⟩, fun e he => ?_, ?_⟩
    · obtain ⟨e0, h1', h2⟩ := ddC_inv _ k u hk
      rw [List.getElem?_map, Option.map_eq_some_iff] at h1'
      obtain ⟨e, h1, rfl⟩ := h1'
      have hc := (hP _ e h1).1 (k % 7) (Nat.mod_lt _ (by omega))
      rw [h2] at hc
      obtain ⟨b, off, spot⟩ := a
      have hspot : spot = none := by
        have hlt := (List.getElem?_eq_some_iff.1 h1).1
        obtain ⟨e0, he0⟩ : ∃ e0, es[0]? = some e0 := ⟨_, List.getElem?_eq_getElem (by omega)⟩
        have hc0 := (hP _ e0 he0).1 0 (by omega)
        have h0 : W.cell? ⟨b, off, spot⟩ = some (.int .i64 e0.1.1.k0) := by simpa [Addr.add, DdE.cells] using hc0
        exact World.cell?_spot h0
      subst hspot
      refine ⟨b, off, rfl, ?_⟩
      unfold Cel
      have e2 : ((Addr.add ⟨b, off, none⟩ (k / 7 * 7)).add (k % 7)) = ⟨b, off + k, none⟩ := by
        rw [Go.WideShapes.add_plain, Go.WideShapes.add_plain]
        congr 1; omega
      rw [← e2]; exact hc
    · obtain ⟨i, hi⟩ := List.getElem?_of_mem he
      exact (hP i e hi).2
    · rw [hes, hd]
      have := bulk_len (elems.map (·.1))
      simp only [Rows.uptoBulk, List.length_map] at this ⊢; omega
end Go.Proofs.YtkobdhlkgmjhbaaGreatDoor
namespace Go.Proofs.YtkobdhlkgmjhbaaGreatDoor
open Go.RowKit
theorem blk_rd0 {b : Nat} {xs : List Value} {ty : TypeId} {h : Hp} (a : blk b xs ty h) (hx : xs.length = 240) : rdH 1 (.slice (some ⟨b, 0, none⟩) 240 240) 240 xs h := a.rd (by omega) (by omega) (by omega) (by simp; exact List.take_of_length_le (by omega))
theorem same6_c (a1 a2 : Int) (v1 v2 : Value) (l m_ : List UInt8) (A B : Asn) (hA : ∀ h, A h → rdH 1 v1 l.length (l.map u8) h) (hB : ∀ h, B h → rdH 1 v2 m_.length (m_.map u8) h) : Cn Tryz.prog 22 [.agg #[.int .i64 a1, v1], .agg #[.int .i64 a2, v2]] [A, B] (fun v Γ => v = .bool (decide (a1 = a2 ∧ l = m_)) ∧ Γ = [A, B]) := by
 intro z R w H'; have H : Sep z (A :: B :: R) w := H'
 clear H'; obtain ⟨ao1, c1, rfl⟩ := H.says 0 rfl (fun h q => (hA h q).slc); obtain ⟨ao2, c2, rfl⟩ := H.says 1 rfl (fun h q => (hB h q).slc); refine enter Tryz.func22 rfl 19 Tryz.ntmps22 rfl (k_seq (s_region (s_go rfl rfl rfl (n_box H rfl rfl (cs := [.int .i64 a1, .slice ao1 l.length c1]) rfl) ?_))); rintro _ w ⟨b1, rfl, H'⟩; have H := H'.l3; clear H'; refine s_go rfl rfl rfl (n_box H rfl rfl (cs := [.int .i64 a2, .slice ao2 m_.length c2]) rfl) ?_; rintro _ w ⟨b2, rfl, H'⟩; have H := H'.l4; clear H'; refine s_do rfl rfl rfl (d_assign rfl rfl) (s_end (k_seq (s_region (s_do rfl rfl rfl (d_field rfl (k := 0) (r := 0) (by kernel_rfl) rfl rfl) (s_do rfl rfl rfl (d_load rfl rfl (by kernel_rfl) (here (H.cel 1 rfl 0 rfl))) (s_do rfl rfl rfl (d_field rfl (k := 0) (r := 0) (by kernel_rfl) rfl rfl) (s_do rfl rfl rfl (d_load rfl rfl (by kernel_rfl) (here (H.cel 0 rfl 0 rfl))) (s_do rfl rfl rfl (d_eql rfl rfl rfl) (s_do rfl rfl rfl (d_move rfl rfl) (s_part 10 rfl (fun h1 => ?_) (fun h1 => ?_)))))))))))
 ·refine s_do rfl rfl rfl (d_field rfl (k := 1) (r := 1) (by kernel_rfl) rfl rfl) (s_do rfl rfl rfl (d_load rfl rfl (by kernel_rfl) (here (H.cel 1 rfl 1 rfl))) (s_do rfl rfl rfl (d_bytesStr (l := l) rfl (by kernel_rfl) (by kernel_rfl) rfl (here (H.rd 2 rfl hA))) (s_do rfl rfl rfl (d_field rfl (k := 1) (r := 1) (by kernel_rfl) rfl rfl) (s_do rfl rfl rfl (d_load rfl rfl (by kernel_rfl) (here (H.cel 0 rfl 1 rfl))) (s_do rfl rfl rfl (d_bytesStr (l := m_) rfl (by kernel_rfl) (by kernel_rfl) rfl (here (H.rd 3 rfl hB))) (s_do rfl rfl rfl (d_eqlS rfl (by kernel_rfl) rfl rfl) (s_do rfl rfl rfl (d_pick_t rfl rfl rfl) (s_do rfl rfl rfl (d_assign rfl rfl) (s_end (k_ret (doneL rfl [.bool (decide (l = m_))] ⟨rfl, trivial⟩ (v := .bool (decide (l = m_))) rfl ?_))))))))))); exact ⟨[A, B], ⟨congrArg Value.bool (by simp [h1]), rfl⟩, H.perm 4 [2, 3] rfl rfl⟩
 ·refine s_skip rfl rfl rfl (s_skip rfl rfl rfl (s_skip rfl rfl rfl (s_skip rfl rfl rfl (s_skip rfl rfl rfl (s_skip rfl rfl rfl (s_skip rfl rfl rfl (s_do rfl rfl rfl (d_pick_f rfl rfl rfl) (s_do rfl rfl rfl (d_assign rfl rfl) (s_end (k_ret (doneL rfl [.bool false] ⟨rfl, trivial⟩ (v := .bool false) rfl ?_))))))))))); exact ⟨[A, B], ⟨congrArg Value.bool (by simp [h1]), rfl⟩, H.perm 4 [2, 3] rfl rfl⟩
set_option maxHeartbeats 2000000 in
theorem lives_c  : Cn Tryz.prog 17 [] [] (fun v Γ => v = .bool true ∧ Γ = []) := by
 intro z R w H'; have H : Sep z (R) w := H'
 clear H'; refine enter Tryz.func17 rfl 91 Tryz.ntmps17 rfl (k_seq (s_region (s_do rfl rfl rfl (d_assign rfl rfl) (s_end (k_seq (s_region (s_C rfl rfl rfl rfl rfl (fun w => Tryz.call7 _ w) (dnew_c 128) H rfl ?_))))))); rintro _ w _ (⟨hn_, rfl, rfl⟩ | ⟨_, pd, rfl, rfl⟩) H'
 ·exact absurd (by omega) hn_
 ·have H := H'.l1; clear H'; refine s_do rfl rfl rfl (d_move rfl rfl) (s_do rfl rfl rfl (d_extract rfl rfl rfl) (s_do rfl rfl rfl (d_extract rfl rfl rfl) (s_do rfl rfl rfl (d_assign rfl rfl) (s_do rfl rfl rfl (d_assign rfl rfl) (s_end (k_seq (k_seq (s_region (s_do rfl rfl rfl (d_move rfl rfl) (s_do rfl rfl rfl (d_eql_pn rfl (by kernel_rfl) rfl rfl) (s_do rfl rfl rfl (d_move rfl rfl) (s_do rfl rfl rfl (d_move rfl rfl) (s_do rfl rfl rfl (d_neq rfl rfl rfl) ?_))))))))))))); refine k_updA 20 (u := .bool (decide ((0 : Int) ≠ 0))) (v := .bool false) rfl (congrArg Value.bool (by decide)) (s_do rfl rfl rfl (d_pick_f rfl rfl rfl) (s_do rfl rfl rfl (d_move rfl rfl) (s_do rfl rfl rfl (d_move rfl rfl) (s_C rfl rfl rfl rfl rfl (fun w => Tryz.call8 _ w) (format_c _ 128 _ _ _ (fm_ok (by omega) (by omega) (by omega) (by omega) (by omega))) H rfl ?_)))); rintro _ w _ ⟨rfl, rfl⟩ H'; have H := H'.l1; clear H'; refine s_do rfl rfl rfl (d_neq rfl rfl rfl) (k_updA 25 (u := .bool (decide ((0 : Int) ≠ 0))) (v := .bool false) rfl (congrArg Value.bool (by decide)) (s_do rfl rfl rfl (d_pick_f rfl rfl rfl) (s_end (k_false rfl (k_skip (k_seq (s_region (s_do rfl rfl rfl (d_move rfl rfl) (s_C rfl rfl rfl rfl rfl (fun w => Tryz.call9 _ w) (open_s _ _ _ _ _ _ (fm_open (fm_ok (n := 128) (p := 16) (s := 18) (l := 64) (by omega) (by omega) (by omega) (by omega) (by omega))) (fm_clean _ _ _ _) (show (2 : Int) ≤ (2 : Nat) ∧ (1 : Int) ≤ (2 : Nat) by omega) (by omega)) H rfl ?_))))))))); rintro _ w _ ⟨ps, D0, got0, hgd0, fi0, hn0, rfl, rfl⟩ H'; have H := H'.l1; clear H'; subst hgd0
  have H' : Sep z (stoA ps pd D0 (opG (fmS 16 18 64 2) (fun _ => noPg)) none :: R) w := H
  clear H; have H := H'.l1; clear H'; refine s_do rfl rfl rfl (d_move rfl rfl) (s_do rfl rfl rfl (d_extract rfl rfl rfl) (s_do rfl rfl rfl (d_extract rfl rfl rfl) (s_do rfl rfl rfl (d_assign rfl rfl) (s_do rfl rfl rfl (d_assign rfl rfl) (s_end (k_seq (k_seq (s_region (s_do rfl rfl rfl (d_move rfl rfl) (s_do rfl rfl rfl (d_eql_pn rfl (by kernel_rfl) rfl rfl) (s_do rfl rfl rfl (d_move rfl rfl) (s_do rfl rfl rfl (d_move rfl rfl) (s_do rfl rfl rfl (d_neq rfl rfl rfl) ?_))))))))))))); refine k_updA 36 (u := .bool (decide ((0 : Int) ≠ 0))) (v := .bool false) rfl (congrArg Value.bool (by decide)) (s_do rfl rfl rfl (d_pick_f rfl rfl rfl) (s_end (k_false rfl (k_skip (k_seq (s_region (s_do rfl rfl rfl (d_build rfl rfl (out := [.int .i64 0, .int .i64 0, .int .i64 5, .int .i64 7, .int .i64 0, .int .i64 0, .slice none 0 0]) (by kernel_rfl)) (s_C rfl rfl rfl rfl rfl (fun w => Tryz.call13 _ w) (page_c _ _ _ _ _ _ rfl) H rfl ?_)))))))); rintro _ w _ ⟨pb1, rfl, rfl⟩ H'; have H := H'.l2; clear H'; refine s_go rfl rfl rfl (n_alloc (P := Tryz.prog) H rfl (zs := [.int .i64 0, .slice none 0 0]) (by kernel_rfl)) ?_; rintro _ w ⟨b2, rfl, H'⟩; have H := H'.l3; clear H'; refine s_put rfl rfl (n_store 0 H rfl rfl rfl rfl (vs := [.int .i64 5, .slice (some ⟨pb1, 0, none⟩) 240 240]) rfl (by simp [u8, u32, Value.oneCell']) (by kernel_rfl) (by simp) (out := [.int .i64 5, .slice (some ⟨pb1, 0, none⟩) 240 240]) rfl) ?_; rintro w H'; have H := H'.l3; clear H'; refine s_end (k_seq (s_region (s_do rfl rfl rfl (d_move rfl rfl) (s_C rfl rfl rfl rfl rfl (fun w => Tryz.call11 _ w) (begin_s _ _ _ _) H.f2 rfl ?_))))
  rintro _ w _ ⟨rfl, rfl⟩ H'; have H := H'.l3; clear H'; refine s_do rfl rfl rfl (d_assign rfl rfl) (s_end (k_seq (s_region (s_do rfl rfl rfl (d_move rfl rfl) (s_do rfl rfl rfl (d_loadAgg rfl rfl (vs := [.int .i64 5, .slice (some ⟨pb1, 0, none⟩) 240 240]) (by kernel_rfl) (here ((H.blk 1 rfl).part 0 2 _ rfl))) (s_C rfl rfl rfl rfl rfl (fun w => Tryz.call12 _ w) (write_s ps pd D0 (opG (fmS 16 18 64 2) (fun _ => noPg)) _ _ 3 (show ((3 : Nat) : Int) < 16 by omega) (pgF 5 7) (pgF_ok 7 (by omega)) _ _ (fun h q => blk_rd0 q (by rw [List.length_map]; exact pgF_len _ _))) H.f2.f1 rfl ?_)))))); rintro _ w _ (⟨hbad, rfl, rfl⟩ | ⟨_, rfl, rfl⟩) H'
  ·(exfalso; have hbk := hbad.2; omega)
  ·have H := H'.l3; clear H'; refine s_do rfl rfl rfl (d_assign rfl rfl) (s_end (k_seq (s_region (s_do rfl rfl rfl (d_move rfl rfl) (s_C rfl rfl rfl rfl rfl (fun w => Tryz.call15 _ w) (commit_s _ _ _ _ _ _ 3 fi0 (by omega)) H rfl ?_))))); rintro _ w _ ⟨D1, G1, fi1, hn1, hM1, hx1, rfl, rfl⟩ H'; have H := H'.l3; clear H'; refine s_do rfl rfl rfl (d_assign rfl rfl) (s_end (k_seq (s_region (s_do rfl rfl rfl (d_move rfl rfl) (s_C rfl rfl rfl rfl rfl (fun w => Tryz.call39 _ w) (sync_s _ _ _ _ 5 fi1) H rfl ?_))))); rintro _ w _ ⟨rfl, fi2, rfl⟩ H'; have H := H'.l3; clear H'; refine s_do rfl rfl rfl (d_assign rfl rfl) (s_end (k_seq (s_region (s_do rfl rfl rfl (d_move rfl rfl) (s_C rfl rfl rfl rfl rfl (fun w => Tryz.call20 _ w) (crash_s _ _ _ _ _ 10 (fi2.le (by omega)) (by omega) _ [] _ (fun h q => rdH.nil 1 h)) H rfl ?_))))); rintro _ w _ ⟨Dc, hclc, hnc, hOc, rfl, rfl⟩ H'; have H := H'.l3; clear H'; refine s_end (k_seq (s_region (s_do rfl rfl rfl (d_move rfl rfl) (s_C rfl rfl rfl rfl rfl (fun w => Tryz.call9 _ w) (open_s _ _ _ _ _ _ hOc hclc (show G1.x.gen ≤ (10 : Nat) ∧ G1.x.epoch ≤ (10 : Nat) by have h1 := fi1.gen; have h2 := fi1.epoch; omega) (by omega)) H rfl ?_)))); rintro _ w _ ⟨ps2, D2, got, hgd3, fi3, hn3, rfl, rfl⟩ H'; have H := H'.l3; clear H'; have hgot : got = G1.rs := by have h1 := hgd3.1; have h2 := hgd3.2.1; have h3 := hgd3.2.2; dsimp only at h1 h2 h3; rw [h3]; exact List.take_of_length_le (by omega)
   have hM3 : pgMap (ov got) G1.B 3 = pgF 5 7 := by rw [hgot]; show G1.M 3 = _; rw [hM1]; rfl
   refine s_do rfl rfl rfl (d_move rfl rfl) (s_do rfl rfl rfl (d_extract rfl rfl rfl) (s_do rfl rfl rfl (d_extract rfl rfl rfl) (s_do rfl rfl rfl (d_assign rfl rfl) (s_do rfl rfl rfl (d_assign rfl rfl) (s_end (k_seq (k_seq (s_region (s_do rfl rfl rfl (d_move rfl rfl) (s_do rfl rfl rfl (d_eql_pn rfl (by kernel_rfl) rfl rfl) (s_do rfl rfl rfl (d_move rfl rfl) (s_do rfl rfl rfl (d_move rfl rfl) (s_do rfl rfl rfl (d_neq rfl rfl rfl) ?_))))))))))))); refine k_updA 60 (u := .bool (decide ((0 : Int) ≠ 0))) (v := .bool false) rfl (congrArg Value.bool (by decide)) (s_do rfl rfl rfl (d_pick_f rfl rfl rfl) (s_do rfl rfl rfl (d_move rfl rfl) (s_do rfl rfl rfl (d_move rfl rfl) (s_do rfl rfl rfl (d_neq rfl rfl rfl) (k_updA 64 (u := .bool (decide ((0 : Int) ≠ 0))) (v := .bool false) rfl (congrArg Value.bool (by decide)) (s_do rfl rfl rfl (d_pick_f rfl rfl rfl) (s_do rfl rfl rfl (d_move rfl rfl) (s_do rfl rfl rfl (d_move rfl rfl) (s_do rfl rfl rfl (d_neq rfl rfl rfl) (k_updA 68 (u := .bool (decide ((0 : Int) ≠ 0))) (v := .bool false) rfl (congrArg Value.bool (by decide)) (s_do rfl rfl rfl (d_pick_f rfl rfl rfl) (s_do rfl rfl rfl (d_move rfl rfl) (s_do rfl rfl rfl (d_move rfl rfl) ?_))))))))))))); refine s_do rfl rfl rfl (d_neq rfl rfl rfl) (k_updA 72 (u := .bool (decide ((0 : Int) ≠ 0))) (v := .bool false) rfl (congrArg Value.bool (by decide)) (s_do rfl rfl rfl (d_pick_f rfl rfl rfl) (s_do rfl rfl rfl (d_move rfl rfl) (s_do rfl rfl rfl (d_move rfl rfl) (s_do rfl rfl rfl (d_neq rfl rfl rfl) (k_updA 76 (u := .bool (decide ((0 : Int) ≠ 0))) (v := .bool false) rfl (congrArg Value.bool (by decide)) (s_do rfl rfl rfl (d_pick_f rfl rfl rfl) (s_end (k_false rfl (k_skip (k_seq (s_region (s_do rfl rfl rfl (d_move rfl rfl) ?_)))))))))))))
   refine s_C rfl rfl rfl rfl rfl (fun w => Tryz.call16 _ w) (read_s ps2 pd D2 (opG G1.x (pgMap (ov got) G1.B)) none 3 (show ((3 : Nat) : Int) < G1.x.pages by rcases hx1 with e | e <;> rw [e] <;> show ((3 : Nat) : Int) < 16 <;> omega) fi3.clean.f1 (pgF 5 7) hM3.symm) H rfl ?_; rintro _ w _ (⟨hno, rfl, rfl⟩ | ⟨hyes, rv, rfl, rfl⟩) H'
   ·exact absurd (congrArg Pg.kind hno) (by decide)
   ·have H := H'.l4; clear H'; have srv := H.says 0 rfl (fun h q => q.slc)
    refine s_do rfl rfl rfl (d_move rfl rfl) (s_do rfl rfl rfl (d_extract rfl rfl rfl) (s_do rfl rfl rfl (d_extract rfl rfl rfl) (s_go rfl rfl rfl (n_alloc (P := Tryz.prog) H rfl (zs := [.int .i64 0, .slice none 0 0]) (by kernel_rfl)) ?_))); rintro _ w ⟨b3, rfl, H'⟩; have H := H'.l5; clear H'; refine s_put rfl rfl (n_store 0 H rfl rfl rfl rfl (vs := [.int .i64 ((pgF 5 7).kind), rv]) rfl (one_cons rfl (one_cons srv.one one_nil)) (by kernel_rfl) (by simp) (out := [.int .i64 ((pgF 5 7).kind), rv]) rfl) ?_; rintro w H'; have H := H'.l5; clear H'; refine s_do rfl rfl rfl (d_assign rfl rfl) (s_end (k_seq (s_region (s_do rfl rfl rfl (d_loadAgg rfl rfl (vs := [.int .i64 5, .slice (some ⟨pb1, 0, none⟩) 240 240]) (by kernel_rfl) (here ((H.blk 4 rfl).part 0 2 _ rfl))) (s_do rfl rfl rfl (d_loadAgg rfl rfl (vs := [.int .i64 ((pgF 5 7).kind), rv]) (by kernel_rfl) (here ((H.blk 0 rfl).part 0 2 _ rfl))) (s_C rfl rfl rfl rfl rfl (fun w => Tryz.call22 _ w) (same6_c _ _ _ _ (pgF 5 7).body (pgF 5 7).body _ _ (fun h q => by rw [pgF_len]; exact blk_rd0 q (by rw [List.length_map]; exact pgF_len _ _)) (fun h q => by rw [pgF_len]; exact q.rd)) H.f1.f3 rfl ?_)))))); rintro _ w _ ⟨rfl, rfl⟩ H'; have H := H'.l5; clear H'; refine k_updA 85 (u := .bool (decide ((5 : Int) = (pgF 5 7).kind ∧ (pgF 5 7).body = (pgF 5 7).body))) (v := .bool true) rfl (congrArg Value.bool (by simp [pgF])) (s_do rfl rfl rfl (d_assign rfl rfl) (s_end (k_seq (s_region (s_do rfl rfl rfl (d_move rfl rfl) (s_do rfl rfl rfl (d_move rfl rfl) (s_do rfl rfl rfl (d_move rfl rfl) (s_do rfl rfl rfl (d_eql rfl rfl rfl) (k_updA 89 (u := .bool (decide ((0 : Int) = 0))) (v := .bool true) rfl (congrArg Value.bool (by decide)) (s_do rfl rfl rfl (d_pick_t rfl rfl rfl) (s_do rfl rfl rfl (d_assign rfl rfl) (s_end (k_ret ?_)))))))))))))
    refine doneL rfl [.bool true] ⟨rfl, trivial⟩ (v := .bool true) rfl ?_; exact ⟨[], ⟨rfl, rfl⟩, H.perm 5 [] rfl rfl⟩
end Go.Proofs.YtkobdhlkgmjhbaaGreatDoor
namespace Go.Proofs.YtkobdhlkgmjhbaaGreatDoor
open Go.RowKit
variable {z w : World} in
theorem dirty_w (ps pd : Nat) (D : Dsk) (G : StG) (txn : Txn) : Cn Tryz.prog 19 [.pointer (some ⟨ps, 0, none⟩)] [stoA ps pd D G txn] (fun v Γ => (G.home ∧ ∃ ao c, v = .slice ao 0 c ∧ Γ = [stoA ps pd D G txn]) ∨ (¬ G.home ∧ ∃ (ks : List Int) (g cap : Nat) (rest : List Value), 0 < ks.length ∧ ks.length ≤ cap ∧ cap ≤ 9223372036854775807 ∧ v = .slice (some ⟨g, 0, none⟩) ks.length cap ∧ Γ = [blk g (ks.map (Value.int .i64) ++ rest) 3, stoA ps pd D G txn])) := by
  intro z R w H
  refine Ret.mono (dirty_s ps pd D G txn z R w H) ?_
  rintro v w' ⟨Γ', ⟨ks, hks, rfl⟩, H'⟩
  rcases Nat.eq_zero_or_pos ks.length with e | e
  · obtain ⟨ao, c, hv⟩ := H'.says 0 rfl (fun h q => q.slc)
    rw [e] at hv
    have e2 : ks = [] := List.length_eq_zero_iff.1 e
    subst e2
    refine ⟨_, .inl ⟨fun n => ?_, ao, c, hv, rfl⟩, H'.pick 2 [1] rfl⟩
    cases ho : ov G.rs n with
    | none => rfl
    | some p =>
      have := (hks.2 (n : Int)).2 ⟨by omega, by rw [Int.toNat_natCast, ho]; rfl⟩
      cases this
  · obtain ⟨g, cap, rest, hv, h1, h0, _, H2⟩ := H'.ungrow 0 rfl e
    refine ⟨_, .inr ⟨fun hh => ?_, ks, g, cap, rest, e, h1, h0, hv, rfl⟩, H2⟩
    obtain ⟨k, hk⟩ : ∃ k, k ∈ ks := ⟨ks[0], List.getElem_mem e⟩
    have h2 := ((hks.2 k).1 hk).2
    rw [hh] at h2
    cases h2
end Go.Proofs.YtkobdhlkgmjhbaaGreatDoor
namespace Go.Proofs.YtkobdhlkgmjhbaaGreatDoor
open Go.RowKit
section
variable {P : Program} {C : World → Prop} {o : Oper} {n : Nat} {ds : List Deferred} {L : List (Nat × Value)} {x y : Operand} {xt yt : TypeId}
def fieldPart (P : Program) (t : TypeId) (f : Nat) (cs : Array Value) : Option Value := match P.underlying t with
  | some (.struct fs) => match fs[f]? with
    | some fd => bif flat P fd.type then cs[fd.offset]? else none
    | none => none
  | _ => none
theorem d_fieldV {t : TypeId} {f : Nat} {cs : Array Value} {v : Value} (ho : o.op = .field t x f) (hx : ev L x = some (.agg cs)) (hv : fieldPart P t f cs = some v) : DoesL P C n ds L o v := fun a hF w _ => by
  unfold fieldPart at hv
  split at hv
  · rename_i fs h1
    split at hv
    · rename_i fd h2
      cases hb : flat P fd.type with
      | false => rw [hb] at hv; cases hv
      | true =>
        rw [hb] at hv
        simp only [cond_true] at hv
        simp only [execOp, ho, hF.ev hx, Instr.field, Sem.run_bind, run_underlying h1, Result.andThen_ok, h2]
        simp [asAgg, part, run_flat hb, hv, go_sem]
    · cases hv
  · cases hv
def intFields (P : Program) (t : TypeId) (cs : Array Value) : Bool := match P.underlying t with
  | some (.struct fs) => fs.toList.all fun f => flat P f.type && (match P.underlying f.type with | some (.int _) => true | _ => false) && (match cs[f.offset]? with | some (.int _ _) => true | _ => false)
  | _ => false
theorem run_forIn_same {α β : Type} (l : List α) (b : β) (f : α → β → Sem (ForInStep β)) (w : World) (h : ∀ a ∈ l, (f a b).run P w = .ok (.yield b) w) : (forIn l b f).run P w = .ok b w := by
  induction l with
  | nil => simp [go_sem]
  | cons a l ih =>
    rw [List.forIn_cons, Sem.run_bind, h a (by simp)]
    exact ih fun a ha => h a (by simp [ha])
theorem d_neqSame {cs : Array Value} (ho : o.op = .binOp .neq xt x y yt) (ht : intFields P xt cs = true) (hs : P.stoodInHeld xt = false) (hg : P.eqGuardType P.depth xt = false) (hx : ev L x = some (.agg cs)) (hy : ev L y = some (.agg cs)) : DoesL P C n ds L o (.bool false) := fun a hF w _ => by
  unfold intFields at ht
  split at ht
  · rename_i fs h
    have hgen : ∀ d, (Op.equalIn (d + 1 + 1) xt (.agg cs) (.agg cs)).run P w = .ok true w := fun d => by
      rw [Op.equalIn]
      simp only [Sem.run_bind, run_underlying h, Result.andThen_ok]
      have hh : (program).run P w = .ok P w := by simp [program, Sem.run]
      simp only [hh, Result.andThen_ok, hs, Bool.false_eq_true, if_false]
      rw [Sem.run_bind, ← Array.forIn_toList, run_forIn_same]
      · rfl
      · intro f hf
        have hf2 := (List.all_eq_true.1 ht) f hf
        simp only [Bool.and_eq_true] at hf2
        obtain ⟨⟨h1, h2⟩, h3⟩ := hf2
        split
        · split at h3
          · rename_i k v hc
            split at h2
            · rename_i k2 hu
              have hp : (part f.type cs f.offset).run P w = .ok (.int k v) w := by
                simp only [part, Sem.run_bind, run_flat h1, Result.andThen_ok, if_false, Bool.false_eq_true, hc, Sem.run_pure]
              have he : (Op.equalIn (d + 1) f.type (.int k v) (.int k v)).run P w = .ok true w := by
                rw [Op.equalIn]
                simp [Sem.run_bind, run_underlying hu, go_sem]
              simp only [Sem.run_bind, hp, he, Result.andThen_ok]
              simp [go_sem]
            · cases h2
          · cases h3
        · simp [go_sem]
    have main : (Op.equal xt (.agg cs) (.agg cs)).run P w = .ok true w := hgen 9998
    have hguard : (eqGuard .neq xt x y (.agg cs) (.agg cs)).run P w = .ok () w := by
      simp [eqGuard, Sem.run_bind, program, Sem.run, hg]
    simp only [execOp, ho, hF.ev hx, hF.ev hy]
    simp only [binOp, Sem.run_bind, hguard, main, Result.andThen_ok, Sem.run_pure]
    simp
  · cases ht
end
end Go.Proofs.YtkobdhlkgmjhbaaGreatDoor
namespace Go.Proofs.YtkobdhlkgmjhbaaGreatDoor
open Go.RowKit
theorem sw_ok {x : Sup} {n : Int} {s l : Int} (h : x.Ok n) (h1 : 1 ≤ x.gen) (hg : x.gen + 1 ≤ 1099511627776) (he : x.epoch + 1 ≤ 1099511627776) (hp : x.pages = 20) (hs : 22 ≤ s) (hl : 64 ≤ l) (hn : s + l ≤ n) (hn2 : n ≤ 4096) : (swS x s l).Ok n := by
  have hs0 := Sup.get h
  have hf := swS_f x s l
  have hk := h.2
  exact Sup.ok_mk (by omega) (by omega) (by omega) (by rw [hf.2.2.2.1, hf.2.2.1]; omega) (by rw [hf.2.2.2.2.1]; omega) (by omega) (by omega) (by omega)
set_option maxHeartbeats 8000000 in
theorem storeGens_c (v : Value) (es : Dds) (hes : es.length ≤ 1048576) (A : Asn) (hA : ∀ h, A h → rdH 7 v es.length (ddC (es.map Prod.fst)) h ∧ ddsP es h) : Cn Tryz.prog 6 [v] [A] (fun v Γ => v = .bool true ∧ Γ = [A]) := by
 intro z R w H'; have H : Sep z (A :: R) w := H'
 clear H'; obtain ⟨ao, oc, rfl⟩ := H.says 0 rfl (fun h q => (hA h q).1.slc); refine enter Tryz.func6 rfl 215 Tryz.ntmps6 rfl (k_seq (s_region (s_do rfl rfl rfl (d_assign rfl rfl) (s_end (k_seq (s_region (s_C rfl rfl rfl rfl rfl (fun w => Tryz.call7 _ w) (dnew_c 300) H rfl ?_))))))); rintro _ w _ (⟨hn_, rfl, rfl⟩ | ⟨_, pd, rfl, rfl⟩) H'
 ·exact absurd (by omega) hn_
 ·have H := H'.l2; clear H'; refine s_do rfl rfl rfl (d_move rfl rfl) (s_do rfl rfl rfl (d_extract rfl rfl rfl) (s_do rfl rfl rfl (d_extract rfl rfl rfl) (s_do rfl rfl rfl (d_assign rfl rfl) (s_do rfl rfl rfl (d_assign rfl rfl) (s_end (k_seq (k_seq (s_region (s_do rfl rfl rfl (d_move rfl rfl) (s_do rfl rfl rfl (d_eql_pn rfl (by kernel_rfl) rfl rfl) (s_do rfl rfl rfl (d_move rfl rfl) (s_do rfl rfl rfl (d_move rfl rfl) (s_do rfl rfl rfl (d_neq rfl rfl rfl) ?_))))))))))))); refine k_updA 22 (u := .bool (decide ((0 : Int) ≠ 0))) (v := .bool false) rfl (congrArg Value.bool (by decide)) (s_do rfl rfl rfl (d_pick_f rfl rfl rfl) (s_do rfl rfl rfl (d_move rfl rfl) (s_do rfl rfl rfl (d_move rfl rfl) (s_C rfl rfl rfl rfl rfl (fun w => Tryz.call8 _ w) (format_c _ 300 _ _ _ (fm_ok (by omega) (by omega) (by omega) (by omega) (by omega))) H rfl ?_)))); rintro _ w _ ⟨rfl, rfl⟩ H'; have H := H'.l2; clear H'; refine s_do rfl rfl rfl (d_neq rfl rfl rfl) (k_updA 27 (u := .bool (decide ((0 : Int) ≠ 0))) (v := .bool false) rfl (congrArg Value.bool (by decide)) (s_do rfl rfl rfl (d_pick_f rfl rfl rfl) (s_end (k_false rfl (k_skip (k_seq (s_region (s_do rfl rfl rfl (d_move rfl rfl) (s_C rfl rfl rfl rfl rfl (fun w => Tryz.call9 _ w) (open_s _ _ _ _ _ _ (fm_open (fm_ok (n := 300) (p := 20) (s := 30) (l := 100) (by omega) (by omega) (by omega) (by omega) (by omega))) (fm_clean _ _ _ _) (show (2 : Int) ≤ (2 : Nat) ∧ (1 : Int) ≤ (2 : Nat) by omega) (by omega)) H rfl ?_))))))))); rintro _ w _ ⟨ps, D0, got0, hgd0, fi0, hn0, rfl, rfl⟩ H'; have H := H'.l2; clear H'; subst hgd0
  have H' : Sep z (stoA ps pd D0 (opG (fmS 20 30 100 2) (fun _ => noPg)) none :: A :: R) w := H
  clear H; have H := H'.l2; clear H'; refine s_do rfl rfl rfl (d_move rfl rfl) (s_do rfl rfl rfl (d_extract rfl rfl rfl) (s_do rfl rfl rfl (d_extract rfl rfl rfl) (s_do rfl rfl rfl (d_assign rfl rfl) (s_do rfl rfl rfl (d_assign rfl rfl) (s_end (k_seq (k_seq (s_region (s_do rfl rfl rfl (d_move rfl rfl) (s_do rfl rfl rfl (d_eql_pn rfl (by kernel_rfl) rfl rfl) (s_do rfl rfl rfl (d_move rfl rfl) (s_do rfl rfl rfl (d_move rfl rfl) (s_do rfl rfl rfl (d_neq rfl rfl rfl) ?_))))))))))))); refine k_updA 38 (u := .bool (decide ((0 : Int) ≠ 0))) (v := .bool false) rfl (congrArg Value.bool (by decide)) (s_do rfl rfl rfl (d_pick_f rfl rfl rfl) (s_end (k_false rfl (k_skip (k_seq (k_seq (s_region (s_do rfl rfl rfl (d_assign rfl rfl) (s_end (k_block ?_)))))))))); refine c_loop (σ := Nat × Dsk × StG × Nat) (fun ⟨i, D, G, ps⟩ => [(6, .int .i64 (i : Int)), (5, .pointer (some ⟨ps, 0, none⟩)), (0, .slice ao es.length oc), (3, .pointer (some ⟨pd, 0, none⟩))])
    (fun ⟨i, D, G, ps⟩ w => Sep z (stoA ps pd D G none :: A :: R) w ∧ (i ≤ es.length ∧ Fine D G (3 + 4 * i) ∧ D.n = 300 ∧ G.x.pages = 20)) (fun ⟨i, D, G, ps⟩ => es.length - i) ⟨0, D0, (opG (fmS 20 30 100 2) (fun _ => noPg)), ps⟩
    (fun _ hF => (hF.cons (hF.cons (hF.cons (hF.cons hF.nil 3 _ _ rfl rfl) 0 _ _ rfl rfl) 5 _ _ rfl rfl) 6 _ _ rfl (by go_num))) ⟨H, by omega, fi0, hn0, rfl⟩ ?_
  clear H; rintro ⟨i, D, G, ps⟩ w ⟨H', hI⟩; dsimp only at hI H' ⊢
  have H := H'.l2; clear H'; obtain ⟨hi, fi, hDn, hGp⟩ := hI; refine k_seq (k_seq (s_region (s_do rfl rfl rfl (d_move rfl rfl) (s_do rfl rfl rfl (d_move rfl rfl) (s_do rfl rfl rfl (d_len rfl (z := 7) (by kernel_rfl) rfl) (s_do rfl rfl rfl (d_lss rfl rfl rfl) (s_end (k_dec rfl (fun h1 => ?_) (fun h1 => ?_)))))))))
  ·refine k_skip (k_seq (k_block (k_seq (s_region ?_)))); have hlt : i < es.length := by omega
   obtain ⟨⟨⟨dm, pv⟩, kl⟩, he⟩ : ∃ e, es[i]? = some e := ⟨_, List.getElem?_eq_getElem (by omega)⟩; have he' : (es.map Prod.fst)[i]? = some (dm, pv) := by rw [List.getElem?_map, he]; rfl
   have hdp := fun h q => (hA h q).2 _ (List.mem_of_getElem? he)
   have hdi := H.says 1 rfl (fun h q => (hdp h q).2)
   obtain ⟨hd0, hd1, hd4, hd5⟩ := hdi; dsimp only at hd0 hd1 hd4 hd5
   have hat := (H.rd 1 rfl (fun h q => (hA h q).1)).at (ddC_get he' 0 _ rfl)
   have spv := H.says 1 rfl (fun h q => (hdp h q).1.slc)
   have hSi := H.says 0 rfl (fun h q => q.inv)
   have hge1 := hSi.gen
   have hep1 := hSi.s.epoch
   have hge0 := fi.gen
   have hep0 := fi.epoch
   refine s_do rfl rfl rfl (d_move rfl rfl) (s_do rfl rfl rfl (d_move rfl rfl) (s_do rfl rfl rfl (d_indexE rfl (z := 7) (j := i) (r := i * 7) (by kernel_rfl) rfl rfl rfl (by omega) hat (by omega)) (s_do rfl rfl rfl (d_loadAggE rfl rfl (vs := [.int .i64 dm.k0, .int .i64 dm.k1, .int .i64 dm.k2, .int .i64 dm.k3, .int .i64 dm.k4, .int .i64 dm.k5, pv]) (by kernel_rfl) (by simp) (here (fun k u hk => (H.rd 1 rfl (fun h q => (hA h q).1)).at (ddC_get he' k u hk)))) (s_go rfl rfl rfl (n_alloc (P := Tryz.prog) H rfl (zs := [.int .i64 0, .int .i64 0, .int .i64 0, .int .i64 0, .int .i64 0, .int .i64 0, .slice none 0 0]) (by kernel_rfl)) ?_)))); rintro _ w ⟨b1, rfl, H'⟩; have H := H'.l3; clear H'; refine s_put rfl rfl (n_store 0 H rfl rfl rfl rfl (vs := [.int .i64 dm.k0, .int .i64 dm.k1, .int .i64 dm.k2, .int .i64 dm.k3, .int .i64 dm.k4, .int .i64 dm.k5, pv]) rfl (one_cons rfl (one_cons rfl (one_cons rfl (one_cons rfl (one_cons rfl (one_cons rfl (one_cons spv.one one_nil))))))) (by kernel_rfl) (by simp) (out := [.int .i64 dm.k0, .int .i64 dm.k1, .int .i64 dm.k2, .int .i64 dm.k3, .int .i64 dm.k4, .int .i64 dm.k5, pv]) rfl) ?_; rintro w H'; have H := H'.l3; clear H'; refine s_end (k_seq (s_region (s_do rfl rfl rfl (d_move rfl rfl) (s_C rfl rfl rfl rfl rfl (fun w => Tryz.call21 _ w) (super_s ps pd D G none) H.f1 rfl ?_)))); rintro _ w _ ⟨rfl, rfl⟩ H'; have H := H'.l3; clear H'; refine s_go rfl rfl rfl (n_alloc (P := Tryz.prog) H rfl (zs := [.int .i64 0, .int .i64 0, .int .i64 0, .int .i64 0, .int .i64 0, .int .i64 0, .int .i64 0]) (by kernel_rfl)) ?_; rintro _ w ⟨b2, rfl, H'⟩
   have H := H'.l4; clear H'; refine s_put rfl rfl (n_store 0 H rfl rfl rfl rfl (vs := [.int .i64 G.x.gen, .int .i64 G.x.epoch, .int .i64 G.x.pages, .int .i64 G.x.start, .int .i64 G.x.len, .int .i64 G.x.head, .int .i64 G.x.seq]) rfl (by simp [u8, u32, Value.oneCell']) (by kernel_rfl) (by simp) (out := [.int .i64 G.x.gen, .int .i64 G.x.epoch, .int .i64 G.x.pages, .int .i64 G.x.start, .int .i64 G.x.len, .int .i64 G.x.head, .int .i64 G.x.seq]) rfl) ?_; rintro w H'; have H := H'.l4; clear H'; refine s_end (k_seq (s_region (s_do rfl rfl rfl (d_loadAgg rfl rfl (vs := [.int .i64 G.x.gen, .int .i64 G.x.epoch, .int .i64 G.x.pages, .int .i64 G.x.start, .int .i64 G.x.len, .int .i64 G.x.head, .int .i64 G.x.seq]) (by kernel_rfl) (here ((H.blk 0 rfl).part 0 7 _ rfl))) (s_go rfl rfl rfl (n_alloc (P := Tryz.prog) H rfl (zs := [.int .i64 0, .int .i64 0, .int .i64 0, .int .i64 0, .int .i64 0, .int .i64 0, .int .i64 0]) (by kernel_rfl)) ?_)))); rintro _ w ⟨b3, rfl, H'⟩; have H := H'.l5; clear H'; refine s_put rfl rfl (n_store 0 H rfl rfl rfl rfl (vs := [.int .i64 G.x.gen, .int .i64 G.x.epoch, .int .i64 G.x.pages, .int .i64 G.x.start, .int .i64 G.x.len, .int .i64 G.x.head, .int .i64 G.x.seq]) rfl (by simp [u8, u32, Value.oneCell']) (by kernel_rfl) (by simp) (out := [.int .i64 G.x.gen, .int .i64 G.x.epoch, .int .i64 G.x.pages, .int .i64 G.x.start, .int .i64 G.x.len, .int .i64 G.x.head, .int .i64 G.x.seq]) rfl) ?_; rintro w H'; have H := H'.l5; clear H'; refine s_end (k_cut (fun a w => ∃ (psn : Nat) (D2 : Dsk) (G2 : StG), Fr 215 [] [(5, .pointer (some ⟨psn, 0, none⟩)), (0, .slice ao es.length oc), (3, .pointer (some ⟨pd, 0, none⟩)), (6, .int .i64 (i : Int)), (7, .pointer (some ⟨b1, 0, none⟩)), (8, .pointer (some ⟨b2, 0, none⟩)), (9, .pointer (some ⟨b3, 0, none⟩)), (40, .int .i64 (i : Int)), (41, .slice ao es.length oc), (42, .int .i64 (es.length : Int)), (43, .bool (decide ((i : Int) < (es.length : Int)))), (46, .slice ao es.length oc), (47, .int .i64 (i : Int)), (48, eptr ao (i * 7)), (49, .agg #[.int .i64 dm.k0, .int .i64 dm.k1, .int .i64 dm.k2, .int .i64 dm.k3, .int .i64 dm.k4, .int .i64 dm.k5, pv]), (50, .pointer (some ⟨ps, 0, none⟩)), (51, .agg #[.int .i64 G.x.gen, .int .i64 G.x.epoch, .int .i64 G.x.pages, .int .i64 G.x.start, .int .i64 G.x.len, .int .i64 G.x.head, .int .i64 G.x.seq]), (52, .agg #[.int .i64 G.x.gen, .int .i64 G.x.epoch, .int .i64 G.x.pages, .int .i64 G.x.start, .int .i64 G.x.len, .int .i64 G.x.head, .int .i64 G.x.seq])] a ∧ Sep z (stoA psn pd D2 G2 none :: blk b3 [.int .i64 G2.x.gen, .int .i64 G2.x.epoch, .int .i64 G2.x.pages, .int .i64 G2.x.start, .int .i64 G2.x.len, .int .i64 G2.x.head, .int .i64 G2.x.seq] 49 :: blk b1 [.int .i64 dm.k0, .int .i64 dm.k1, .int .i64 dm.k2, .int .i64 dm.k3, .int .i64 dm.k4, .int .i64 dm.k5, pv] 34 :: A :: R) w ∧ (Fine D2 G2 (3 + 4 * i + 2) ∧ D2.n = 300 ∧ G2.x.pages = 20)) ?_ ?_)
   ·refine k_seq (s_region (s_do rfl rfl rfl (d_field rfl (k := 0) (r := 0) (by kernel_rfl) rfl rfl) (s_do rfl rfl rfl (d_load rfl rfl (by kernel_rfl) (here (H.cel 3 rfl 0 rfl))) (s_C rfl rfl rfl rfl rfl (fun w => Tryz.call10 _ w) (pick_c _ 5 hd0 (by omega)) H rfl ?_)))); rintro _ w _ ⟨c_, hc_, rfl, rfl⟩ H'; have H := H'.l5; clear H'; refine s_end (k_block (k_seq (s_region (s_do rfl rfl rfl (d_eql rfl rfl rfl) (s_do rfl rfl rfl (d_assign rfl rfl) (s_end (k_dec rfl (fun h2 => ?_) (fun h2 => ?_))))))))
    ·refine k_seq (s_region (s_do rfl rfl rfl (d_move rfl rfl) (s_C rfl rfl rfl rfl rfl (fun w => Tryz.call11 _ w) (begin_s _ _ _ _) H.f2 rfl ?_))); rintro _ w _ ⟨rfl, rfl⟩ H'; have H := H'.l5; clear H'; refine s_end (k_seq ?_); replace H := H.f3; refine a_region (Sep z (blk b1 [.int .i64 dm.k0, .int .i64 dm.k1, .int .i64 dm.k2, .int .i64 dm.k3, .int .i64 dm.k4, .int .i64 dm.k5, pv] 34 :: R)) 9 rfl (by kernel_rfl) (fun w' x' _ => ?_); have H' := H.ext0 x'; clear x' H; revert H'; generalize w' = w; intro H'
     have H := H'.l5; clear H'; refine a_do 0 rfl (by kernel_rfl) (by kernel_rfl) (by kernel_rfl) rfl rfl rfl (d_move rfl rfl) (H.pick 5 [0] rfl) (a_do 1 rfl (by kernel_rfl) (by kernel_rfl) (by kernel_rfl) rfl rfl rfl (d_field rfl (k := 1) (r := 1) (by kernel_rfl) rfl rfl) (H.pick 5 [0] rfl) (a_do 2 rfl (by kernel_rfl) (by kernel_rfl) (by kernel_rfl) rfl rfl rfl (d_load rfl rfl (by kernel_rfl) (fun _ hx => hx.cel 0 rfl 1 rfl)) (H.pick 5 [0] rfl) (a_do 4 rfl (by kernel_rfl) (by kernel_rfl) (by kernel_rfl) rfl rfl rfl (d_field rfl (k := 3) (r := 3) (by kernel_rfl) rfl rfl) (H.pick 5 [0] rfl) (a_do 5 rfl (by kernel_rfl) (by kernel_rfl) (by kernel_rfl) rfl rfl rfl (d_load rfl rfl (by kernel_rfl) (fun _ hx => hx.cel 0 rfl 3 rfl)) (H.pick 5 [0] rfl) (a_do 6 rfl (by kernel_rfl) (by kernel_rfl) (by kernel_rfl) rfl rfl rfl (d_build rfl rfl (out := [.int .i64 0, .int .i64 0, .int .i64 5, .int .i64 dm.k3, .int .i64 0, .int .i64 0, .slice none 0 0]) (by kernel_rfl)) (H.pick 5 [0] rfl) (a_all [3] (by kernel_rfl) (by simp) (all1 (o_C rfl rfl rfl rfl rfl rfl (fun w => Tryz.call10 _ w) (pick_c _ 20 hd1 (by omega)) H rfl ?_)))))))); rintro _ w _ ⟨n_, hn_, rfl, rfl⟩ H'; have H := H'.l5; clear H'; refine a_and (H.pick 5 [0] rfl) (a_all [7] (by kernel_rfl) (by simp) (all1 (o_C rfl rfl rfl rfl rfl rfl (fun w => Tryz.call13 _ w) (page_c _ _ _ _ _ _ rfl) H rfl ?_))); rintro _ w _ ⟨pb4, rfl, rfl⟩ H'; have H := H'.l6; clear H'; refine a_and (H.pick 6 [1] rfl) (a_all [8] (by kernel_rfl) (by simp) (all1 (o_C rfl rfl rfl rfl rfl rfl (fun w => Tryz.call12 _ w) (write_s ps pd D G _ _ n_ (by omega) (pgF 5 dm.k3) (pgF_ok _ (by omega)) _ _ (fun h q => blk_rd0 q (by rw [List.length_map]; exact pgF_len _ _))) H.f2 rfl ?_)))
     rintro _ w _ (⟨hbad, rfl, rfl⟩ | ⟨_, rfl, rfl⟩) H'
     ·(exfalso; have hbk := hbad.2; omega)
     ·have H := H'.l6; clear H'; refine a_and (H.pick 6 [2] rfl) (a_done (by kernel_rfl) (s_region (s_do rfl rfl rfl (d_move rfl rfl) (s_C rfl rfl rfl rfl rfl (fun w => Tryz.call14 _ w) (abort_s _ _ _ _ _) H rfl ?_)))); rintro _ w _ ⟨rfl, rfl⟩ H'; have H := H'.l6; clear H'; refine s_end ?_; replace H := H.f4.d.f1.d.f3.f2.f3.f3; exact fun _ hF => ⟨ps, D, G, (hF.cons (hF.cons (hF.cons (hF.cons (hF.cons (hF.cons (hF.cons (hF.cons (hF.cons (hF.cons (hF.cons (hF.cons (hF.cons (hF.cons (hF.cons (hF.cons (hF.cons (hF.cons hF.nil 52 _ _ rfl rfl) 51 _ _ rfl rfl) 50 _ _ rfl rfl) 49 _ _ rfl rfl) 48 _ _ rfl rfl) 47 _ _ rfl rfl) 46 _ _ rfl rfl) 43 _ _ rfl rfl) 42 _ _ rfl rfl) 41 _ _ rfl rfl) 40 _ _ rfl rfl) 9 _ _ rfl rfl) 8 _ _ rfl rfl) 7 _ _ rfl rfl) 6 _ _ rfl rfl) 3 _ _ rfl rfl) 0 _ _ rfl rfl) 5 _ _ rfl rfl), H, ⟨fi.le (by omega), hDn, hGp⟩⟩
    ·refine k_seq (k_seq (s_region (s_do rfl rfl rfl (d_eql rfl rfl rfl) (s_do rfl rfl rfl (d_assign rfl rfl) (s_end (k_dec rfl (fun h3 => ?_) (fun h3 => ?_)))))))
     ·refine k_skip (k_dec rfl (fun h4 => ?_) (fun h4 => ?_))
      ·refine k_seq (s_region (s_do rfl rfl rfl (d_move rfl rfl) (s_C rfl rfl rfl rfl rfl (fun w => Tryz.call19 _ w) (dirty_w _ _ _ _ _) H.f2 rfl ?_))); rintro _ w _ (⟨hh6, ao6, c6, rfl, rfl⟩ | ⟨hh6, ks, g6, cap6, rest6, hk6, hkc6, hkx6, rfl, rfl⟩) H'
       ·have H := H'.l5; clear H'; refine s_do rfl rfl rfl (d_len rfl (z := 1) (by kernel_rfl) rfl) (s_do rfl rfl rfl (d_assign rfl rfl) (s_end (k_seq (k_seq (s_region (s_do rfl rfl rfl (d_move rfl rfl) (s_C rfl rfl rfl rfl rfl (fun w => Tryz.call18 _ w) (checkpoint_s ps pd D G (3 + 4 * i) fi (by omega)) H rfl ?_))))))); rintro _ w _ ⟨D3, G3, fi3, hn3, hM3, hh3, hx3, rfl, rfl⟩ H'; have H := H'.l5; clear H'; have hGp3 : G3.x.pages = 20 := by rcases hx3 with ⟨_, e⟩ | ⟨_, e⟩ <;> rw [e] <;> exact hGp
        have hx3e : G3.x = G.x := by rcases hx3 with ⟨_, e⟩ | ⟨e, _⟩; exact e; exact absurd hh6 e
        refine s_do rfl rfl rfl (d_neq rfl rfl rfl) (k_updA 79 (u := .bool (decide ((0 : Int) ≠ 0))) (v := .bool false) rfl (congrArg Value.bool (by decide)) (s_end (k_false rfl (k_skip (k_seq (s_region (s_do rfl rfl rfl (d_move rfl rfl) (s_do rfl rfl rfl (d_gtr rfl rfl rfl) (k_updA 81 (u := .bool (decide ((0 : Int) < 0))) (v := .bool false) rfl (congrArg Value.bool (by decide)) (s_end (k_false rfl (k_skip ?_)))))))))))); replace H := H.f2.d; have H' := H.mono 1 (B := blk b3 [.int .i64 G3.x.gen, .int .i64 G3.x.epoch, .int .i64 G3.x.pages, .int .i64 G3.x.start, .int .i64 G3.x.len, .int .i64 G3.x.head, .int .i64 G3.x.seq] 49) rfl (fun h q => by (try rw [hx3e] at q); (try rw [show G.x.gen + 2 = G.x.gen + 1 + 1 from by omega] at q); rw [hx3e]; exact q)
        clear H; have H := H'.l4; clear H'; exact fun _ hF => ⟨ps, D3, G3, (hF.cons (hF.cons (hF.cons (hF.cons (hF.cons (hF.cons (hF.cons (hF.cons (hF.cons (hF.cons (hF.cons (hF.cons (hF.cons (hF.cons (hF.cons (hF.cons (hF.cons (hF.cons hF.nil 52 _ _ rfl rfl) 51 _ _ rfl rfl) 50 _ _ rfl rfl) 49 _ _ rfl rfl) 48 _ _ rfl rfl) 47 _ _ rfl rfl) 46 _ _ rfl rfl) 43 _ _ rfl rfl) 42 _ _ rfl rfl) 41 _ _ rfl rfl) 40 _ _ rfl rfl) 9 _ _ rfl rfl) 8 _ _ rfl rfl) 7 _ _ rfl rfl) 6 _ _ rfl rfl) 3 _ _ rfl rfl) 0 _ _ rfl rfl) 5 _ _ rfl rfl), H, ⟨fi3.le (by omega), hn3.trans hDn, hGp3⟩⟩
       ·have H := H'.l6; clear H'; refine s_do rfl rfl rfl (d_len rfl (z := 1) (by kernel_rfl) rfl) (s_do rfl rfl rfl (d_assign rfl rfl) (s_end (k_seq (k_seq (s_region (s_do rfl rfl rfl (d_move rfl rfl) (s_C rfl rfl rfl rfl rfl (fun w => Tryz.call18 _ w) (checkpoint_s ps pd D G (3 + 4 * i) fi (by omega)) H.f1 rfl ?_))))))); rintro _ w _ ⟨D3, G3, fi3, hn3, hM3, hh3, hx3, rfl, rfl⟩ H'; have H := H'.l6; clear H'; have hGp3 : G3.x.pages = 20 := by rcases hx3 with ⟨_, e⟩ | ⟨_, e⟩ <;> rw [e] <;> exact hGp
        have hx3e : G3.x = ckS G.x G.a G.q := by rcases hx3 with ⟨e, _⟩ | ⟨_, e⟩; exact absurd e hh6; exact e
        refine s_do rfl rfl rfl (d_neq rfl rfl rfl) (k_updA 79 (u := .bool (decide ((0 : Int) ≠ 0))) (v := .bool false) rfl (congrArg Value.bool (by decide)) (s_end (k_false rfl (k_skip (k_seq (s_region (s_do rfl rfl rfl (d_move rfl rfl) (s_do rfl rfl rfl (d_gtr rfl rfl rfl) (s_end (k_dec rfl (fun h5 => ?_) (fun h5 => ?_)))))))))))
        ·refine k_seq (s_region (s_do rfl rfl rfl (d_field rfl (k := 0) (r := 0) (by kernel_rfl) rfl rfl) (s_do rfl rfl rfl (d_load rfl rfl (by kernel_rfl) (here (H.cel 2 rfl 0 rfl))) (s_do rfl rfl rfl (d_add64 rfl rfl rfl (r := G.x.gen + 1) (by omega) (by omega)) (s_do rfl rfl rfl (d_field rfl (k := 0) (r := 0) (by kernel_rfl) rfl rfl) (s_put rfl rfl (n_store 2 H rfl rfl rfl rfl (vs := [.int .i64 (G.x.gen + 1)]) rfl (by simp [u8, u32, Value.oneCell']) (by kernel_rfl) (by simp) (out := [.int .i64 (G.x.gen + 1), .int .i64 G.x.epoch, .int .i64 G.x.pages, .int .i64 G.x.start, .int .i64 G.x.len, .int .i64 G.x.head, .int .i64 G.x.seq]) rfl) ?_)))))); rintro w H'; have H := H'.l6; clear H'; refine s_end (k_seq (s_region (s_do rfl rfl rfl (d_move rfl rfl) (s_C rfl rfl rfl rfl rfl (fun w => Tryz.call21 _ w) (super_s ps pd D3 G3 none) H rfl ?_)))); rintro _ w _ ⟨rfl, rfl⟩ H'; have H := H'.l6; clear H'; refine s_do rfl rfl rfl (d_fieldV (v := .int .i64 G3.x.head) rfl rfl (by kernel_rfl)) (s_do rfl rfl rfl (d_field rfl (k := 5) (r := 5) (by kernel_rfl) rfl rfl) (s_put rfl rfl (n_store 2 H rfl rfl rfl rfl (vs := [.int .i64 G3.x.head]) rfl (by simp [u8, u32, Value.oneCell']) (by kernel_rfl) (by simp) (out := [.int .i64 (G.x.gen + 1), .int .i64 G.x.epoch, .int .i64 G.x.pages, .int .i64 G.x.start, .int .i64 G.x.len, .int .i64 G3.x.head, .int .i64 G.x.seq]) rfl) ?_)); rintro w H'; have H := H'.l6; clear H'; refine s_end (s_region (s_do rfl rfl rfl (d_move rfl rfl) (s_C rfl rfl rfl rfl rfl (fun w => Tryz.call21 _ w) (super_s ps pd D3 G3 none) H rfl ?_)))
         rintro _ w _ ⟨rfl, rfl⟩ H'; have H := H'.l6; clear H'; refine s_do rfl rfl rfl (d_fieldV (v := .int .i64 G3.x.seq) rfl rfl (by kernel_rfl)) (s_do rfl rfl rfl (d_field rfl (k := 6) (r := 6) (by kernel_rfl) rfl rfl) (s_put rfl rfl (n_store 2 H rfl rfl rfl rfl (vs := [.int .i64 G3.x.seq]) rfl (by simp [u8, u32, Value.oneCell']) (by kernel_rfl) (by simp) (out := [.int .i64 (G.x.gen + 1), .int .i64 G.x.epoch, .int .i64 G.x.pages, .int .i64 G.x.start, .int .i64 G.x.len, .int .i64 G3.x.head, .int .i64 G3.x.seq]) rfl) ?_)); rintro w H'; have H := H'.l6; clear H'; refine s_end ?_; replace H := H.f3.d.f1.d; have H' := H.mono 1 (B := blk b3 [.int .i64 G3.x.gen, .int .i64 G3.x.epoch, .int .i64 G3.x.pages, .int .i64 G3.x.start, .int .i64 G3.x.len, .int .i64 G3.x.head, .int .i64 G3.x.seq] 49) rfl (fun h q => by (try rw [hx3e] at q); (try rw [show G.x.gen + 2 = G.x.gen + 1 + 1 from by omega] at q); rw [hx3e]; exact q)
         clear H; have H := H'.l4; clear H'; exact fun _ hF => ⟨ps, D3, G3, (hF.cons (hF.cons (hF.cons (hF.cons (hF.cons (hF.cons (hF.cons (hF.cons (hF.cons (hF.cons (hF.cons (hF.cons (hF.cons (hF.cons (hF.cons (hF.cons (hF.cons (hF.cons hF.nil 52 _ _ rfl rfl) 51 _ _ rfl rfl) 50 _ _ rfl rfl) 49 _ _ rfl rfl) 48 _ _ rfl rfl) 47 _ _ rfl rfl) 46 _ _ rfl rfl) 43 _ _ rfl rfl) 42 _ _ rfl rfl) 41 _ _ rfl rfl) 40 _ _ rfl rfl) 9 _ _ rfl rfl) 8 _ _ rfl rfl) 7 _ _ rfl rfl) 6 _ _ rfl rfl) 3 _ _ rfl rfl) 0 _ _ rfl rfl) 5 _ _ rfl rfl), H, ⟨fi3.le (by omega), hn3.trans hDn, hGp3⟩⟩
        ·(exfalso; omega)
      ·exact absurd h3 h4
     ·refine s_region (s_do rfl rfl rfl (d_eql rfl rfl rfl) (s_do rfl rfl rfl (d_assign rfl rfl) (s_end (k_dec rfl (fun h6 => ?_) (fun h6 => ?_)))))
      ·refine k_seq (s_region (s_do rfl rfl rfl (d_move rfl rfl) (s_C rfl rfl rfl rfl rfl (fun w => Tryz.call19 _ w) (dirty_w _ _ _ _ _) H.f2 rfl ?_))); rintro _ w _ (⟨hh6, ao6, c6, rfl, rfl⟩ | ⟨hh6, ks, g6, cap6, rest6, hk6, hkc6, hkx6, rfl, rfl⟩) H'
       ·have H := H'.l5; clear H'; refine s_do rfl rfl rfl (d_len rfl (z := 1) (by kernel_rfl) rfl) (s_do rfl rfl rfl (d_assign rfl rfl) (s_end (k_seq (k_seq (s_region (s_do rfl rfl rfl (d_move rfl rfl) (s_C rfl rfl rfl rfl rfl (fun w => Tryz.call18 _ w) (checkpoint_s ps pd D G (3 + 4 * i) fi (by omega)) H rfl ?_))))))); rintro _ w _ ⟨D3, G3, fi3, hn3, hM3, hh3, hx3, rfl, rfl⟩ H'; have H := H'.l5; clear H'; have hGp3 : G3.x.pages = 20 := by rcases hx3 with ⟨_, e⟩ | ⟨_, e⟩ <;> rw [e] <;> exact hGp
        have hx3e : G3.x = G.x := by rcases hx3 with ⟨_, e⟩ | ⟨e, _⟩; exact e; exact absurd hh6 e
        refine s_do rfl rfl rfl (d_neq rfl rfl rfl) (k_updA 79 (u := .bool (decide ((0 : Int) ≠ 0))) (v := .bool false) rfl (congrArg Value.bool (by decide)) (s_end (k_false rfl (k_skip (k_seq (s_region (s_do rfl rfl rfl (d_move rfl rfl) (s_do rfl rfl rfl (d_gtr rfl rfl rfl) (k_updA 81 (u := .bool (decide ((0 : Int) < 0))) (v := .bool false) rfl (congrArg Value.bool (by decide)) (s_end (k_false rfl (k_skip ?_)))))))))))); replace H := H.f2.d; have H' := H.mono 1 (B := blk b3 [.int .i64 G3.x.gen, .int .i64 G3.x.epoch, .int .i64 G3.x.pages, .int .i64 G3.x.start, .int .i64 G3.x.len, .int .i64 G3.x.head, .int .i64 G3.x.seq] 49) rfl (fun h q => by (try rw [hx3e] at q); (try rw [show G.x.gen + 2 = G.x.gen + 1 + 1 from by omega] at q); rw [hx3e]; exact q)
        clear H; have H := H'.l4; clear H'; exact fun _ hF => ⟨ps, D3, G3, (hF.cons (hF.cons (hF.cons (hF.cons (hF.cons (hF.cons (hF.cons (hF.cons (hF.cons (hF.cons (hF.cons (hF.cons (hF.cons (hF.cons (hF.cons (hF.cons (hF.cons (hF.cons hF.nil 52 _ _ rfl rfl) 51 _ _ rfl rfl) 50 _ _ rfl rfl) 49 _ _ rfl rfl) 48 _ _ rfl rfl) 47 _ _ rfl rfl) 46 _ _ rfl rfl) 43 _ _ rfl rfl) 42 _ _ rfl rfl) 41 _ _ rfl rfl) 40 _ _ rfl rfl) 9 _ _ rfl rfl) 8 _ _ rfl rfl) 7 _ _ rfl rfl) 6 _ _ rfl rfl) 3 _ _ rfl rfl) 0 _ _ rfl rfl) 5 _ _ rfl rfl), H, ⟨fi3.le (by omega), hn3.trans hDn, hGp3⟩⟩
       ·have H := H'.l6; clear H'; refine s_do rfl rfl rfl (d_len rfl (z := 1) (by kernel_rfl) rfl) (s_do rfl rfl rfl (d_assign rfl rfl) (s_end (k_seq (k_seq (s_region (s_do rfl rfl rfl (d_move rfl rfl) (s_C rfl rfl rfl rfl rfl (fun w => Tryz.call18 _ w) (checkpoint_s ps pd D G (3 + 4 * i) fi (by omega)) H.f1 rfl ?_))))))); rintro _ w _ ⟨D3, G3, fi3, hn3, hM3, hh3, hx3, rfl, rfl⟩ H'; have H := H'.l6; clear H'; have hGp3 : G3.x.pages = 20 := by rcases hx3 with ⟨_, e⟩ | ⟨_, e⟩ <;> rw [e] <;> exact hGp
        have hx3e : G3.x = ckS G.x G.a G.q := by rcases hx3 with ⟨e, _⟩ | ⟨_, e⟩; exact absurd e hh6; exact e
        refine s_do rfl rfl rfl (d_neq rfl rfl rfl) (k_updA 79 (u := .bool (decide ((0 : Int) ≠ 0))) (v := .bool false) rfl (congrArg Value.bool (by decide)) (s_end (k_false rfl (k_skip (k_seq (s_region (s_do rfl rfl rfl (d_move rfl rfl) (s_do rfl rfl rfl (d_gtr rfl rfl rfl) (s_end (k_dec rfl (fun h7 => ?_) (fun h7 => ?_)))))))))))
        ·refine k_seq (s_region (s_do rfl rfl rfl (d_field rfl (k := 0) (r := 0) (by kernel_rfl) rfl rfl) (s_do rfl rfl rfl (d_load rfl rfl (by kernel_rfl) (here (H.cel 2 rfl 0 rfl))) (s_do rfl rfl rfl (d_add64 rfl rfl rfl (r := G.x.gen + 1) (by omega) (by omega)) (s_do rfl rfl rfl (d_field rfl (k := 0) (r := 0) (by kernel_rfl) rfl rfl) (s_put rfl rfl (n_store 2 H rfl rfl rfl rfl (vs := [.int .i64 (G.x.gen + 1)]) rfl (by simp [u8, u32, Value.oneCell']) (by kernel_rfl) (by simp) (out := [.int .i64 (G.x.gen + 1), .int .i64 G.x.epoch, .int .i64 G.x.pages, .int .i64 G.x.start, .int .i64 G.x.len, .int .i64 G.x.head, .int .i64 G.x.seq]) rfl) ?_)))))); rintro w H'; have H := H'.l6; clear H'; refine s_end (k_seq (s_region (s_do rfl rfl rfl (d_move rfl rfl) (s_C rfl rfl rfl rfl rfl (fun w => Tryz.call21 _ w) (super_s ps pd D3 G3 none) H rfl ?_)))); rintro _ w _ ⟨rfl, rfl⟩ H'; have H := H'.l6; clear H'; refine s_do rfl rfl rfl (d_fieldV (v := .int .i64 G3.x.head) rfl rfl (by kernel_rfl)) (s_do rfl rfl rfl (d_field rfl (k := 5) (r := 5) (by kernel_rfl) rfl rfl) (s_put rfl rfl (n_store 2 H rfl rfl rfl rfl (vs := [.int .i64 G3.x.head]) rfl (by simp [u8, u32, Value.oneCell']) (by kernel_rfl) (by simp) (out := [.int .i64 (G.x.gen + 1), .int .i64 G.x.epoch, .int .i64 G.x.pages, .int .i64 G.x.start, .int .i64 G.x.len, .int .i64 G3.x.head, .int .i64 G.x.seq]) rfl) ?_)); rintro w H'; have H := H'.l6; clear H'; refine s_end (s_region (s_do rfl rfl rfl (d_move rfl rfl) (s_C rfl rfl rfl rfl rfl (fun w => Tryz.call21 _ w) (super_s ps pd D3 G3 none) H rfl ?_)))
         rintro _ w _ ⟨rfl, rfl⟩ H'; have H := H'.l6; clear H'; refine s_do rfl rfl rfl (d_fieldV (v := .int .i64 G3.x.seq) rfl rfl (by kernel_rfl)) (s_do rfl rfl rfl (d_field rfl (k := 6) (r := 6) (by kernel_rfl) rfl rfl) (s_put rfl rfl (n_store 2 H rfl rfl rfl rfl (vs := [.int .i64 G3.x.seq]) rfl (by simp [u8, u32, Value.oneCell']) (by kernel_rfl) (by simp) (out := [.int .i64 (G.x.gen + 1), .int .i64 G.x.epoch, .int .i64 G.x.pages, .int .i64 G.x.start, .int .i64 G.x.len, .int .i64 G3.x.head, .int .i64 G3.x.seq]) rfl) ?_)); rintro w H'; have H := H'.l6; clear H'; refine s_end ?_; replace H := H.f3.d.f1.d; have H' := H.mono 1 (B := blk b3 [.int .i64 G3.x.gen, .int .i64 G3.x.epoch, .int .i64 G3.x.pages, .int .i64 G3.x.start, .int .i64 G3.x.len, .int .i64 G3.x.head, .int .i64 G3.x.seq] 49) rfl (fun h q => by (try rw [hx3e] at q); (try rw [show G.x.gen + 2 = G.x.gen + 1 + 1 from by omega] at q); rw [hx3e]; exact q)
         clear H; have H := H'.l4; clear H'; exact fun _ hF => ⟨ps, D3, G3, (hF.cons (hF.cons (hF.cons (hF.cons (hF.cons (hF.cons (hF.cons (hF.cons (hF.cons (hF.cons (hF.cons (hF.cons (hF.cons (hF.cons (hF.cons (hF.cons (hF.cons (hF.cons hF.nil 52 _ _ rfl rfl) 51 _ _ rfl rfl) 50 _ _ rfl rfl) 49 _ _ rfl rfl) 48 _ _ rfl rfl) 47 _ _ rfl rfl) 46 _ _ rfl rfl) 43 _ _ rfl rfl) 42 _ _ rfl rfl) 41 _ _ rfl rfl) 40 _ _ rfl rfl) 9 _ _ rfl rfl) 8 _ _ rfl rfl) 7 _ _ rfl rfl) 6 _ _ rfl rfl) 3 _ _ rfl rfl) 0 _ _ rfl rfl) 5 _ _ rfl rfl), H, ⟨fi3.le (by omega), hn3.trans hDn, hGp3⟩⟩
        ·(exfalso; omega)
      ·refine k_seq (s_region (s_do rfl rfl rfl (d_eql rfl rfl rfl) (s_do rfl rfl rfl (d_assign rfl rfl) (s_end (k_dec rfl (fun h8 => ?_) (fun h8 => ?_))))))
       ·refine k_seq (k_seq (s_region (s_do rfl rfl rfl (d_field rfl (k := 1) (r := 1) (by kernel_rfl) rfl rfl) (s_do rfl rfl rfl (d_load rfl rfl (by kernel_rfl) (here (H.cel 3 rfl 1 rfl))) (s_do rfl rfl rfl (d_rem rfl rfl rfl (by decide)) ?_))))); have hm1 := Int.tmod_lt_of_pos dm.k1 (by decide : (0 : Int) < 2)
        refine s_do rfl rfl rfl (d_eql rfl rfl rfl) (s_end (k_dec rfl (fun h9 => ?_) (fun h9 => ?_)))
        ·refine k_seq (k_seq (s_region (s_do rfl rfl rfl (d_move rfl rfl) (s_C rfl rfl rfl rfl rfl (fun w => Tryz.call19 _ w) (dirty_w _ _ _ _ _) H.f2 rfl ?_)))); rintro _ w _ (⟨hh6, ao6, c6, rfl, rfl⟩ | ⟨hh6, ks, g6, cap6, rest6, hk6, hkc6, hkx6, rfl, rfl⟩) H'
         ·have H := H'.l5; clear H'; refine s_do rfl rfl rfl (d_len rfl (z := 1) (by kernel_rfl) rfl) (s_do rfl rfl rfl (d_gtr rfl rfl rfl) (k_updA 103 (u := .bool (decide ((0 : Int) < 0))) (v := .bool false) rfl (congrArg Value.bool (by decide)) (s_end (k_false rfl (k_skip (k_seq (k_seq (s_region (s_do rfl rfl rfl (d_move rfl rfl) (s_C rfl rfl rfl rfl rfl (fun w => Tryz.call18 _ w) (checkpoint_s ps pd D G (3 + 4 * i) fi (by omega)) H rfl ?_)))))))))); rintro _ w _ ⟨D3, G3, fi3, hn3, hM3, hh3, hx3, rfl, rfl⟩ H'; have H := H'.l5; clear H'; have hGp3 : G3.x.pages = 20 := by rcases hx3 with ⟨_, e⟩ | ⟨_, e⟩ <;> rw [e] <;> exact hGp
          have hx3e : G3.x = G.x := by rcases hx3 with ⟨_, e⟩ | ⟨e, _⟩; exact e; exact absurd hh6 e
          refine s_do rfl rfl rfl (d_neq rfl rfl rfl) (k_updA 110 (u := .bool (decide ((0 : Int) ≠ 0))) (v := .bool false) rfl (congrArg Value.bool (by decide)) (s_end (k_false rfl (k_skip (k_seq (s_region (s_do rfl rfl rfl (d_move rfl rfl) (s_C rfl rfl rfl rfl rfl (fun w => Tryz.call21 _ w) (super_s ps pd D3 G3 none) H rfl ?_)))))))); rintro _ w _ ⟨rfl, rfl⟩ H'; have H := H'.l5; clear H'; refine s_do rfl rfl rfl (d_fieldV (v := .int .i64 G3.x.head) rfl rfl (by kernel_rfl)) (s_do rfl rfl rfl (d_field rfl (k := 5) (r := 5) (by kernel_rfl) rfl rfl) (s_put rfl rfl (n_store 1 H rfl rfl rfl rfl (vs := [.int .i64 G3.x.head]) rfl (by simp [u8, u32, Value.oneCell']) (by kernel_rfl) (by simp) (out := [.int .i64 G.x.gen, .int .i64 G.x.epoch, .int .i64 G.x.pages, .int .i64 G.x.start, .int .i64 G.x.len, .int .i64 G3.x.head, .int .i64 G.x.seq]) rfl) ?_)); rintro w H'; have H := H'.l5; clear H'; refine s_end (s_region (s_do rfl rfl rfl (d_move rfl rfl) (s_C rfl rfl rfl rfl rfl (fun w => Tryz.call21 _ w) (super_s ps pd D3 G3 none) H rfl ?_))); rintro _ w _ ⟨rfl, rfl⟩ H'; have H := H'.l5; clear H'; refine s_do rfl rfl rfl (d_fieldV (v := .int .i64 G3.x.seq) rfl rfl (by kernel_rfl)) (s_do rfl rfl rfl (d_field rfl (k := 6) (r := 6) (by kernel_rfl) rfl rfl) (s_put rfl rfl (n_store 1 H rfl rfl rfl rfl (vs := [.int .i64 G3.x.seq]) rfl (by simp [u8, u32, Value.oneCell']) (by kernel_rfl) (by simp) (out := [.int .i64 G.x.gen, .int .i64 G.x.epoch, .int .i64 G.x.pages, .int .i64 G.x.start, .int .i64 G.x.len, .int .i64 G3.x.head, .int .i64 G3.x.seq]) rfl) ?_))
          rintro w H'; have H := H'.l5; clear H'; refine s_end (k_seq (s_region (s_do rfl rfl rfl (d_field rfl (k := 4) (r := 4) (by kernel_rfl) rfl rfl) (s_do rfl rfl rfl (d_load rfl rfl (by kernel_rfl) (here (H.cel 3 rfl 4 rfl))) (s_C rfl rfl rfl rfl rfl (fun w => Tryz.call10 _ w) (pick_c _ 100 hd4 (by omega)) H rfl ?_))))); rintro _ w _ ⟨a_, ha_, rfl, rfl⟩ H'; have H := H'.l5; clear H'; refine s_do rfl rfl rfl (d_add64 rfl rfl rfl (r := 22 + (a_ : Int)) (by omega) (by omega)) (s_do rfl rfl rfl (d_assign rfl rfl) (s_end (k_seq (s_region (s_do rfl rfl rfl (d_field rfl (k := 5) (r := 5) (by kernel_rfl) rfl rfl) (s_do rfl rfl rfl (d_load rfl rfl (by kernel_rfl) (here (H.cel 3 rfl 5 rfl))) (s_C rfl rfl rfl rfl rfl (fun w => Tryz.call10 _ w) (pick_c _ 100 hd5 (by omega)) H rfl ?_))))))); rintro _ w _ ⟨l_, hl_, rfl, rfl⟩ H'; have H := H'.l5; clear H'; refine s_do rfl rfl rfl (d_add64 rfl rfl rfl (r := 64 + (l_ : Int)) (by omega) (by omega)) (s_do rfl rfl rfl (d_assign rfl rfl) (s_end (k_seq (s_region (s_do rfl rfl rfl (d_move rfl rfl) (s_do rfl rfl rfl (d_move rfl rfl) (s_do rfl rfl rfl (d_move rfl rfl) ?_))))))); have hS_ := H.says 0 rfl (fun h q => q.inv)
          have hy_ : (swS G3.x (22 + (a_ : Int)) (64 + (l_ : Int))).Ok (D3.n : Int) := sw_ok hS_.ok hS_.gen (by have := fi3.gen; omega) (by have := fi3.epoch; omega) (by have := hGp3; omega) (by omega) (by omega) (by first | (have := hn3; omega) | omega) (by first | (have := hn3; omega) | omega)
          refine s_C rfl rfl rfl rfl rfl (fun w => Tryz.call23 _ w) (switch_s ps pd D3 G3 (3 + 4 * i + 1) (fi3.le (by omega)) (by omega) _ _) H rfl ?_; rintro _ w _ (⟨hh7, rfl, rfl⟩ | ⟨_, hy7, _⟩ | ⟨hh7, hy7, D7, fi7, hn7, rfl, rfl⟩) H'
          ·exact absurd hh3 hh7
          ·exact absurd hy_ hy7
          ·have H := H'.l5; clear H'; refine s_do rfl rfl rfl (d_eql rfl rfl rfl) (k_updA 131 (u := .bool (decide ((0 : Int) = 0))) (v := .bool true) rfl (congrArg Value.bool (by decide)) (s_end (k_true rfl (k_seq (s_region (s_do rfl rfl rfl (d_field rfl (k := 0) (r := 0) (by kernel_rfl) rfl rfl) (s_do rfl rfl rfl (d_load rfl rfl (by kernel_rfl) (here (H.cel 1 rfl 0 rfl))) (s_do rfl rfl rfl (d_add64 rfl rfl rfl (r := G.x.gen + 1) (by omega) (by omega)) (s_do rfl rfl rfl (d_field rfl (k := 0) (r := 0) (by kernel_rfl) rfl rfl) (s_put rfl rfl (n_store 1 H rfl rfl rfl rfl (vs := [.int .i64 (G.x.gen + 1)]) rfl (by simp [u8, u32, Value.oneCell']) (by kernel_rfl) (by simp) (out := [.int .i64 (G.x.gen + 1), .int .i64 G.x.epoch, .int .i64 G.x.pages, .int .i64 G.x.start, .int .i64 G.x.len, .int .i64 G3.x.head, .int .i64 G3.x.seq]) rfl) ?_)))))))))); rintro w H'; have H := H'.l5; clear H'; refine s_end (k_seq (s_region (s_do rfl rfl rfl (d_field rfl (k := 1) (r := 1) (by kernel_rfl) rfl rfl) (s_do rfl rfl rfl (d_load rfl rfl (by kernel_rfl) (here (H.cel 1 rfl 1 rfl))) (s_do rfl rfl rfl (d_add64 rfl rfl rfl (r := G.x.epoch + 1) (by omega) (by omega)) (s_do rfl rfl rfl (d_field rfl (k := 1) (r := 1) (by kernel_rfl) rfl rfl) (s_put rfl rfl (n_store 1 H rfl rfl rfl rfl (vs := [.int .i64 (G.x.epoch + 1)]) rfl (by simp [u8, u32, Value.oneCell']) (by kernel_rfl) (by simp) (out := [.int .i64 (G.x.gen + 1), .int .i64 (G.x.epoch + 1), .int .i64 G.x.pages, .int .i64 G.x.start, .int .i64 G.x.len, .int .i64 G3.x.head, .int .i64 G3.x.seq]) rfl) ?_))))))); rintro w H'; have H := H'.l5; clear H'; refine s_end (k_seq (s_region (s_do rfl rfl rfl (d_move rfl rfl) (s_do rfl rfl rfl (d_field rfl (k := 3) (r := 3) (by kernel_rfl) rfl rfl) (s_put rfl rfl (n_store 1 H rfl rfl rfl rfl (vs := [.int .i64 (22 + (a_ : Int))]) rfl (by simp [u8, u32, Value.oneCell']) (by kernel_rfl) (by simp) (out := [.int .i64 (G.x.gen + 1), .int .i64 (G.x.epoch + 1), .int .i64 G.x.pages, .int .i64 (22 + (a_ : Int)), .int .i64 G.x.len, .int .i64 G3.x.head, .int .i64 G3.x.seq]) rfl) ?_)))))
           rintro w H'; have H := H'.l5; clear H'; refine s_end (k_seq (s_region (s_do rfl rfl rfl (d_move rfl rfl) (s_do rfl rfl rfl (d_field rfl (k := 4) (r := 4) (by kernel_rfl) rfl rfl) (s_put rfl rfl (n_store 1 H rfl rfl rfl rfl (vs := [.int .i64 (64 + (l_ : Int))]) rfl (by simp [u8, u32, Value.oneCell']) (by kernel_rfl) (by simp) (out := [.int .i64 (G.x.gen + 1), .int .i64 (G.x.epoch + 1), .int .i64 G.x.pages, .int .i64 (22 + (a_ : Int)), .int .i64 (64 + (l_ : Int)), .int .i64 G3.x.head, .int .i64 G3.x.seq]) rfl) ?_))))); rintro w H'; have H := H'.l5; clear H'; refine s_end (k_seq (s_region (s_do rfl rfl rfl (d_field rfl (k := 5) (r := 5) (by kernel_rfl) rfl rfl) (s_put rfl rfl (n_store 1 H rfl rfl rfl rfl (vs := [.int .i64 0]) rfl (by simp [u8, u32, Value.oneCell']) (by kernel_rfl) (by simp) (out := [.int .i64 (G.x.gen + 1), .int .i64 (G.x.epoch + 1), .int .i64 G.x.pages, .int .i64 (22 + (a_ : Int)), .int .i64 (64 + (l_ : Int)), .int .i64 0, .int .i64 G3.x.seq]) rfl) ?_)))); rintro w H'; have H := H'.l5; clear H'; refine s_end (s_region (s_do rfl rfl rfl (d_field rfl (k := 6) (r := 6) (by kernel_rfl) rfl rfl) (s_put rfl rfl (n_store 1 H rfl rfl rfl rfl (vs := [.int .i64 1]) rfl (by simp [u8, u32, Value.oneCell']) (by kernel_rfl) (by simp) (out := [.int .i64 (G.x.gen + 1), .int .i64 (G.x.epoch + 1), .int .i64 G.x.pages, .int .i64 (22 + (a_ : Int)), .int .i64 (64 + (l_ : Int)), .int .i64 0, .int .i64 1]) rfl) ?_))); rintro w H'; have H := H'.l5; clear H'; refine s_end ?_; replace H := H.f2.d; have H' := H.mono 1 (B := blk b3 [.int .i64 ((swG G3 (22 + (a_ : Int)) (64 + (l_ : Int))).x.gen), .int .i64 ((swG G3 (22 + (a_ : Int)) (64 + (l_ : Int))).x.epoch), .int .i64 ((swG G3 (22 + (a_ : Int)) (64 + (l_ : Int))).x.pages), .int .i64 ((swG G3 (22 + (a_ : Int)) (64 + (l_ : Int))).x.start), .int .i64 ((swG G3 (22 + (a_ : Int)) (64 + (l_ : Int))).x.len), .int .i64 ((swG G3 (22 + (a_ : Int)) (64 + (l_ : Int))).x.head), .int .i64 ((swG G3 (22 + (a_ : Int)) (64 + (l_ : Int))).x.seq)] 49) rfl (fun h q => by (try rw [hx3e] at q); (try rw [show G.x.gen + 2 = G.x.gen + 1 + 1 from by omega] at q); simp only [swG, swS]; rw [hx3e]; exact q)
           clear H; have H := H'.l4; clear H'; exact fun _ hF => ⟨ps, D7, (swG G3 (22 + (a_ : Int)) (64 + (l_ : Int))), (hF.cons (hF.cons (hF.cons (hF.cons (hF.cons (hF.cons (hF.cons (hF.cons (hF.cons (hF.cons (hF.cons (hF.cons (hF.cons (hF.cons (hF.cons (hF.cons (hF.cons (hF.cons hF.nil 52 _ _ rfl rfl) 51 _ _ rfl rfl) 50 _ _ rfl rfl) 49 _ _ rfl rfl) 48 _ _ rfl rfl) 47 _ _ rfl rfl) 46 _ _ rfl rfl) 43 _ _ rfl rfl) 42 _ _ rfl rfl) 41 _ _ rfl rfl) 40 _ _ rfl rfl) 9 _ _ rfl rfl) 8 _ _ rfl rfl) 7 _ _ rfl rfl) 6 _ _ rfl rfl) 3 _ _ rfl rfl) 0 _ _ rfl rfl) 5 _ _ rfl rfl), H, ⟨fi7.le (by omega), hn7.trans (hn3.trans hDn), hGp3⟩⟩
         ·have H := H'.l6; clear H'; refine s_do rfl rfl rfl (d_len rfl (z := 1) (by kernel_rfl) rfl) (s_do rfl rfl rfl (d_gtr rfl rfl rfl) (s_end (k_dec rfl (fun h10 => ?_) (fun h10 => ?_))))
          ·refine s_region (s_do rfl rfl rfl (d_field rfl (k := 0) (r := 0) (by kernel_rfl) rfl rfl) (s_do rfl rfl rfl (d_load rfl rfl (by kernel_rfl) (here (H.cel 2 rfl 0 rfl))) (s_do rfl rfl rfl (d_add64 rfl rfl rfl (r := G.x.gen + 1) (by omega) (by omega)) (s_do rfl rfl rfl (d_field rfl (k := 0) (r := 0) (by kernel_rfl) rfl rfl) (s_put rfl rfl (n_store 2 H rfl rfl rfl rfl (vs := [.int .i64 (G.x.gen + 1)]) rfl (by simp [u8, u32, Value.oneCell']) (by kernel_rfl) (by simp) (out := [.int .i64 (G.x.gen + 1), .int .i64 G.x.epoch, .int .i64 G.x.pages, .int .i64 G.x.start, .int .i64 G.x.len, .int .i64 G.x.head, .int .i64 G.x.seq]) rfl) ?_))))); rintro w H'; have H := H'.l6; clear H'; refine s_end (k_seq (k_seq (s_region (s_do rfl rfl rfl (d_move rfl rfl) (s_C rfl rfl rfl rfl rfl (fun w => Tryz.call18 _ w) (checkpoint_s ps pd D G (3 + 4 * i) fi (by omega)) H.f1 rfl ?_))))); rintro _ w _ ⟨D3, G3, fi3, hn3, hM3, hh3, hx3, rfl, rfl⟩ H'; have H := H'.l6; clear H'; have hGp3 : G3.x.pages = 20 := by rcases hx3 with ⟨_, e⟩ | ⟨_, e⟩ <;> rw [e] <;> exact hGp
           have hx3e : G3.x = ckS G.x G.a G.q := by rcases hx3 with ⟨e, _⟩ | ⟨_, e⟩; exact absurd e hh6; exact e
           refine s_do rfl rfl rfl (d_neq rfl rfl rfl) (k_updA 110 (u := .bool (decide ((0 : Int) ≠ 0))) (v := .bool false) rfl (congrArg Value.bool (by decide)) (s_end (k_false rfl (k_skip (k_seq (s_region (s_do rfl rfl rfl (d_move rfl rfl) (s_C rfl rfl rfl rfl rfl (fun w => Tryz.call21 _ w) (super_s ps pd D3 G3 none) H rfl ?_)))))))); rintro _ w _ ⟨rfl, rfl⟩ H'; have H := H'.l6; clear H'; refine s_do rfl rfl rfl (d_fieldV (v := .int .i64 G3.x.head) rfl rfl (by kernel_rfl)) (s_do rfl rfl rfl (d_field rfl (k := 5) (r := 5) (by kernel_rfl) rfl rfl) (s_put rfl rfl (n_store 2 H rfl rfl rfl rfl (vs := [.int .i64 G3.x.head]) rfl (by simp [u8, u32, Value.oneCell']) (by kernel_rfl) (by simp) (out := [.int .i64 (G.x.gen + 1), .int .i64 G.x.epoch, .int .i64 G.x.pages, .int .i64 G.x.start, .int .i64 G.x.len, .int .i64 G3.x.head, .int .i64 G.x.seq]) rfl) ?_)); rintro w H'; have H := H'.l6; clear H'; refine s_end (s_region (s_do rfl rfl rfl (d_move rfl rfl) (s_C rfl rfl rfl rfl rfl (fun w => Tryz.call21 _ w) (super_s ps pd D3 G3 none) H rfl ?_))); rintro _ w _ ⟨rfl, rfl⟩ H'; have H := H'.l6; clear H'; refine s_do rfl rfl rfl (d_fieldV (v := .int .i64 G3.x.seq) rfl rfl (by kernel_rfl)) (s_do rfl rfl rfl (d_field rfl (k := 6) (r := 6) (by kernel_rfl) rfl rfl) (s_put rfl rfl (n_store 2 H rfl rfl rfl rfl (vs := [.int .i64 G3.x.seq]) rfl (by simp [u8, u32, Value.oneCell']) (by kernel_rfl) (by simp) (out := [.int .i64 (G.x.gen + 1), .int .i64 G.x.epoch, .int .i64 G.x.pages, .int .i64 G.x.start, .int .i64 G.x.len, .int .i64 G3.x.head, .int .i64 G3.x.seq]) rfl) ?_))
           rintro w H'; have H := H'.l6; clear H'; refine s_end (k_seq (s_region (s_do rfl rfl rfl (d_field rfl (k := 4) (r := 4) (by kernel_rfl) rfl rfl) (s_do rfl rfl rfl (d_load rfl rfl (by kernel_rfl) (here (H.cel 4 rfl 4 rfl))) (s_C rfl rfl rfl rfl rfl (fun w => Tryz.call10 _ w) (pick_c _ 100 hd4 (by omega)) H rfl ?_))))); rintro _ w _ ⟨a_, ha_, rfl, rfl⟩ H'; have H := H'.l6; clear H'; refine s_do rfl rfl rfl (d_add64 rfl rfl rfl (r := 22 + (a_ : Int)) (by omega) (by omega)) (s_do rfl rfl rfl (d_assign rfl rfl) (s_end (k_seq (s_region (s_do rfl rfl rfl (d_field rfl (k := 5) (r := 5) (by kernel_rfl) rfl rfl) (s_do rfl rfl rfl (d_load rfl rfl (by kernel_rfl) (here (H.cel 4 rfl 5 rfl))) (s_C rfl rfl rfl rfl rfl (fun w => Tryz.call10 _ w) (pick_c _ 100 hd5 (by omega)) H rfl ?_))))))); rintro _ w _ ⟨l_, hl_, rfl, rfl⟩ H'; have H := H'.l6; clear H'; refine s_do rfl rfl rfl (d_add64 rfl rfl rfl (r := 64 + (l_ : Int)) (by omega) (by omega)) (s_do rfl rfl rfl (d_assign rfl rfl) (s_end (k_seq (s_region (s_do rfl rfl rfl (d_move rfl rfl) (s_do rfl rfl rfl (d_move rfl rfl) (s_do rfl rfl rfl (d_move rfl rfl) ?_))))))); have hS_ := H.says 0 rfl (fun h q => q.inv)
           have hy_ : (swS G3.x (22 + (a_ : Int)) (64 + (l_ : Int))).Ok (D3.n : Int) := sw_ok hS_.ok hS_.gen (by have := fi3.gen; omega) (by have := fi3.epoch; omega) (by have := hGp3; omega) (by omega) (by omega) (by first | (have := hn3; omega) | omega) (by first | (have := hn3; omega) | omega)
           refine s_C rfl rfl rfl rfl rfl (fun w => Tryz.call23 _ w) (switch_s ps pd D3 G3 (3 + 4 * i + 1) (fi3.le (by omega)) (by omega) _ _) H rfl ?_; rintro _ w _ (⟨hh7, rfl, rfl⟩ | ⟨_, hy7, _⟩ | ⟨hh7, hy7, D7, fi7, hn7, rfl, rfl⟩) H'
           ·exact absurd hh3 hh7
           ·exact absurd hy_ hy7
           ·have H := H'.l6; clear H'; refine s_do rfl rfl rfl (d_eql rfl rfl rfl) (k_updA 131 (u := .bool (decide ((0 : Int) = 0))) (v := .bool true) rfl (congrArg Value.bool (by decide)) (s_end (k_true rfl (k_seq (s_region (s_do rfl rfl rfl (d_field rfl (k := 0) (r := 0) (by kernel_rfl) rfl rfl) (s_do rfl rfl rfl (d_load rfl rfl (by kernel_rfl) (here (H.cel 2 rfl 0 rfl))) (s_do rfl rfl rfl (d_add64 rfl rfl rfl (r := G.x.gen + 2) (by omega) (by omega)) (s_do rfl rfl rfl (d_field rfl (k := 0) (r := 0) (by kernel_rfl) rfl rfl) (s_put rfl rfl (n_store 2 H rfl rfl rfl rfl (vs := [.int .i64 (G.x.gen + 2)]) rfl (by simp [u8, u32, Value.oneCell']) (by kernel_rfl) (by simp) (out := [.int .i64 (G.x.gen + 2), .int .i64 G.x.epoch, .int .i64 G.x.pages, .int .i64 G.x.start, .int .i64 G.x.len, .int .i64 G3.x.head, .int .i64 G3.x.seq]) rfl) ?_)))))))))); rintro w H'; have H := H'.l6; clear H'; refine s_end (k_seq (s_region (s_do rfl rfl rfl (d_field rfl (k := 1) (r := 1) (by kernel_rfl) rfl rfl) (s_do rfl rfl rfl (d_load rfl rfl (by kernel_rfl) (here (H.cel 2 rfl 1 rfl))) (s_do rfl rfl rfl (d_add64 rfl rfl rfl (r := G.x.epoch + 1) (by omega) (by omega)) (s_do rfl rfl rfl (d_field rfl (k := 1) (r := 1) (by kernel_rfl) rfl rfl) (s_put rfl rfl (n_store 2 H rfl rfl rfl rfl (vs := [.int .i64 (G.x.epoch + 1)]) rfl (by simp [u8, u32, Value.oneCell']) (by kernel_rfl) (by simp) (out := [.int .i64 (G.x.gen + 2), .int .i64 (G.x.epoch + 1), .int .i64 G.x.pages, .int .i64 G.x.start, .int .i64 G.x.len, .int .i64 G3.x.head, .int .i64 G3.x.seq]) rfl) ?_))))))); rintro w H'; have H := H'.l6; clear H'; refine s_end (k_seq (s_region (s_do rfl rfl rfl (d_move rfl rfl) (s_do rfl rfl rfl (d_field rfl (k := 3) (r := 3) (by kernel_rfl) rfl rfl) (s_put rfl rfl (n_store 2 H rfl rfl rfl rfl (vs := [.int .i64 (22 + (a_ : Int))]) rfl (by simp [u8, u32, Value.oneCell']) (by kernel_rfl) (by simp) (out := [.int .i64 (G.x.gen + 2), .int .i64 (G.x.epoch + 1), .int .i64 G.x.pages, .int .i64 (22 + (a_ : Int)), .int .i64 G.x.len, .int .i64 G3.x.head, .int .i64 G3.x.seq]) rfl) ?_)))))
            rintro w H'; have H := H'.l6; clear H'; refine s_end (k_seq (s_region (s_do rfl rfl rfl (d_move rfl rfl) (s_do rfl rfl rfl (d_field rfl (k := 4) (r := 4) (by kernel_rfl) rfl rfl) (s_put rfl rfl (n_store 2 H rfl rfl rfl rfl (vs := [.int .i64 (64 + (l_ : Int))]) rfl (by simp [u8, u32, Value.oneCell']) (by kernel_rfl) (by simp) (out := [.int .i64 (G.x.gen + 2), .int .i64 (G.x.epoch + 1), .int .i64 G.x.pages, .int .i64 (22 + (a_ : Int)), .int .i64 (64 + (l_ : Int)), .int .i64 G3.x.head, .int .i64 G3.x.seq]) rfl) ?_))))); rintro w H'; have H := H'.l6; clear H'; refine s_end (k_seq (s_region (s_do rfl rfl rfl (d_field rfl (k := 5) (r := 5) (by kernel_rfl) rfl rfl) (s_put rfl rfl (n_store 2 H rfl rfl rfl rfl (vs := [.int .i64 0]) rfl (by simp [u8, u32, Value.oneCell']) (by kernel_rfl) (by simp) (out := [.int .i64 (G.x.gen + 2), .int .i64 (G.x.epoch + 1), .int .i64 G.x.pages, .int .i64 (22 + (a_ : Int)), .int .i64 (64 + (l_ : Int)), .int .i64 0, .int .i64 G3.x.seq]) rfl) ?_)))); rintro w H'; have H := H'.l6; clear H'; refine s_end (s_region (s_do rfl rfl rfl (d_field rfl (k := 6) (r := 6) (by kernel_rfl) rfl rfl) (s_put rfl rfl (n_store 2 H rfl rfl rfl rfl (vs := [.int .i64 1]) rfl (by simp [u8, u32, Value.oneCell']) (by kernel_rfl) (by simp) (out := [.int .i64 (G.x.gen + 2), .int .i64 (G.x.epoch + 1), .int .i64 G.x.pages, .int .i64 (22 + (a_ : Int)), .int .i64 (64 + (l_ : Int)), .int .i64 0, .int .i64 1]) rfl) ?_))); rintro w H'; have H := H'.l6; clear H'; refine s_end ?_; replace H := H.f3.d.f1.d; have H' := H.mono 1 (B := blk b3 [.int .i64 ((swG G3 (22 + (a_ : Int)) (64 + (l_ : Int))).x.gen), .int .i64 ((swG G3 (22 + (a_ : Int)) (64 + (l_ : Int))).x.epoch), .int .i64 ((swG G3 (22 + (a_ : Int)) (64 + (l_ : Int))).x.pages), .int .i64 ((swG G3 (22 + (a_ : Int)) (64 + (l_ : Int))).x.start), .int .i64 ((swG G3 (22 + (a_ : Int)) (64 + (l_ : Int))).x.len), .int .i64 ((swG G3 (22 + (a_ : Int)) (64 + (l_ : Int))).x.head), .int .i64 ((swG G3 (22 + (a_ : Int)) (64 + (l_ : Int))).x.seq)] 49) rfl (fun h q => by (try rw [hx3e] at q); (try rw [show G.x.gen + 2 = G.x.gen + 1 + 1 from by omega] at q); simp only [swG, swS]; rw [hx3e]; exact q)
            clear H; have H := H'.l4; clear H'; exact fun _ hF => ⟨ps, D7, (swG G3 (22 + (a_ : Int)) (64 + (l_ : Int))), (hF.cons (hF.cons (hF.cons (hF.cons (hF.cons (hF.cons (hF.cons (hF.cons (hF.cons (hF.cons (hF.cons (hF.cons (hF.cons (hF.cons (hF.cons (hF.cons (hF.cons (hF.cons hF.nil 52 _ _ rfl rfl) 51 _ _ rfl rfl) 50 _ _ rfl rfl) 49 _ _ rfl rfl) 48 _ _ rfl rfl) 47 _ _ rfl rfl) 46 _ _ rfl rfl) 43 _ _ rfl rfl) 42 _ _ rfl rfl) 41 _ _ rfl rfl) 40 _ _ rfl rfl) 9 _ _ rfl rfl) 8 _ _ rfl rfl) 7 _ _ rfl rfl) 6 _ _ rfl rfl) 3 _ _ rfl rfl) 0 _ _ rfl rfl) 5 _ _ rfl rfl), H, ⟨fi7.le (by omega), hn7.trans (hn3.trans hDn), hGp3⟩⟩
          ·(exfalso; omega)
        ·refine k_skip (k_seq (s_region (s_do rfl rfl rfl (d_field rfl (k := 4) (r := 4) (by kernel_rfl) rfl rfl) (s_do rfl rfl rfl (d_load rfl rfl (by kernel_rfl) (here (H.cel 3 rfl 4 rfl))) (s_C rfl rfl rfl rfl rfl (fun w => Tryz.call10 _ w) (pick_c _ 100 hd4 (by omega)) H rfl ?_))))); rintro _ w _ ⟨a_, ha_, rfl, rfl⟩ H'; have H := H'.l5; clear H'; refine s_do rfl rfl rfl (d_add64 rfl rfl rfl (r := 22 + (a_ : Int)) (by omega) (by omega)) (s_do rfl rfl rfl (d_assign rfl rfl) (s_end (k_seq (s_region (s_do rfl rfl rfl (d_field rfl (k := 5) (r := 5) (by kernel_rfl) rfl rfl) (s_do rfl rfl rfl (d_load rfl rfl (by kernel_rfl) (here (H.cel 3 rfl 5 rfl))) (s_C rfl rfl rfl rfl rfl (fun w => Tryz.call10 _ w) (pick_c _ 100 hd5 (by omega)) H rfl ?_))))))); rintro _ w _ ⟨l_, hl_, rfl, rfl⟩ H'; have H := H'.l5; clear H'; refine s_do rfl rfl rfl (d_add64 rfl rfl rfl (r := 64 + (l_ : Int)) (by omega) (by omega)) (s_do rfl rfl rfl (d_assign rfl rfl) (s_end (k_seq (s_region (s_do rfl rfl rfl (d_move rfl rfl) (s_do rfl rfl rfl (d_move rfl rfl) (s_do rfl rfl rfl (d_move rfl rfl) ?_))))))); have hS_ := H.says 2 rfl (fun h q => q.inv)
         have hy_ : (swS G.x (22 + (a_ : Int)) (64 + (l_ : Int))).Ok (D.n : Int) := sw_ok hS_.ok hS_.gen (by have := fi.gen; omega) (by have := fi.epoch; omega) (by have := hGp; omega) (by omega) (by omega) (by first | (have := hn3; omega) | omega) (by first | (have := hn3; omega) | omega)
         refine s_C rfl rfl rfl rfl rfl (fun w => Tryz.call23 _ w) (switch_s ps pd D G (3 + 4 * i + 1) (fi.le (by omega)) (by omega) _ _) H.f2 rfl ?_; rintro _ w _ (⟨hh7, rfl, rfl⟩ | ⟨_, hy7, _⟩ | ⟨hh7, hy7, D7, fi7, hn7, rfl, rfl⟩) H'
         ·have H := H'.l5; clear H'; refine s_do rfl rfl rfl (d_eql rfl rfl rfl) (k_updA 131 (u := .bool (decide ((17 : Int) = 0))) (v := .bool false) rfl (congrArg Value.bool (by decide)) (s_end (k_false rfl (k_seq (s_region (s_do rfl rfl rfl (d_move rfl rfl) (s_C rfl rfl rfl rfl rfl (fun w => Tryz.call19 _ w) (dirty_w _ _ _ _ _) H rfl ?_))))))); rintro _ w _ (⟨hh6, ao6, c6, rfl, rfl⟩ | ⟨hh6, ks, g6, cap6, rest6, hk6, hkc6, hkx6, rfl, rfl⟩) H'
          ·exact absurd hh6 hh7
          ·have H := H'.l6; clear H'; refine s_do rfl rfl rfl (d_len rfl (z := 1) (by kernel_rfl) rfl) (s_do rfl rfl rfl (d_eql rfl rfl rfl) (s_end (k_dec rfl (fun h11 => ?_) (fun h11 => ?_))))
           ·(exfalso; omega)
           ·refine k_skip ?_; replace H := H.f3.d.d; exact fun _ hF => ⟨ps, D, G, (hF.cons (hF.cons (hF.cons (hF.cons (hF.cons (hF.cons (hF.cons (hF.cons (hF.cons (hF.cons (hF.cons (hF.cons (hF.cons (hF.cons (hF.cons (hF.cons (hF.cons (hF.cons hF.nil 52 _ _ rfl rfl) 51 _ _ rfl rfl) 50 _ _ rfl rfl) 49 _ _ rfl rfl) 48 _ _ rfl rfl) 47 _ _ rfl rfl) 46 _ _ rfl rfl) 43 _ _ rfl rfl) 42 _ _ rfl rfl) 41 _ _ rfl rfl) 40 _ _ rfl rfl) 9 _ _ rfl rfl) 8 _ _ rfl rfl) 7 _ _ rfl rfl) 6 _ _ rfl rfl) 3 _ _ rfl rfl) 0 _ _ rfl rfl) 5 _ _ rfl rfl), H, ⟨fi.le (by omega), hDn, hGp⟩⟩
         ·exact absurd hy_ hy7
         ·have H := H'.l5; clear H'; refine s_do rfl rfl rfl (d_eql rfl rfl rfl) (k_updA 131 (u := .bool (decide ((0 : Int) = 0))) (v := .bool true) rfl (congrArg Value.bool (by decide)) (s_end (k_true rfl (k_seq (s_region (s_do rfl rfl rfl (d_field rfl (k := 0) (r := 0) (by kernel_rfl) rfl rfl) (s_do rfl rfl rfl (d_load rfl rfl (by kernel_rfl) (here (H.cel 1 rfl 0 rfl))) (s_do rfl rfl rfl (d_add64 rfl rfl rfl (r := G.x.gen + 1) (by omega) (by omega)) (s_do rfl rfl rfl (d_field rfl (k := 0) (r := 0) (by kernel_rfl) rfl rfl) (s_put rfl rfl (n_store 1 H rfl rfl rfl rfl (vs := [.int .i64 (G.x.gen + 1)]) rfl (by simp [u8, u32, Value.oneCell']) (by kernel_rfl) (by simp) (out := [.int .i64 (G.x.gen + 1), .int .i64 G.x.epoch, .int .i64 G.x.pages, .int .i64 G.x.start, .int .i64 G.x.len, .int .i64 G.x.head, .int .i64 G.x.seq]) rfl) ?_)))))))))); rintro w H'; have H := H'.l5; clear H'; refine s_end (k_seq (s_region (s_do rfl rfl rfl (d_field rfl (k := 1) (r := 1) (by kernel_rfl) rfl rfl) (s_do rfl rfl rfl (d_load rfl rfl (by kernel_rfl) (here (H.cel 1 rfl 1 rfl))) (s_do rfl rfl rfl (d_add64 rfl rfl rfl (r := G.x.epoch + 1) (by omega) (by omega)) (s_do rfl rfl rfl (d_field rfl (k := 1) (r := 1) (by kernel_rfl) rfl rfl) (s_put rfl rfl (n_store 1 H rfl rfl rfl rfl (vs := [.int .i64 (G.x.epoch + 1)]) rfl (by simp [u8, u32, Value.oneCell']) (by kernel_rfl) (by simp) (out := [.int .i64 (G.x.gen + 1), .int .i64 (G.x.epoch + 1), .int .i64 G.x.pages, .int .i64 G.x.start, .int .i64 G.x.len, .int .i64 G.x.head, .int .i64 G.x.seq]) rfl) ?_))))))); rintro w H'; have H := H'.l5; clear H'; refine s_end (k_seq (s_region (s_do rfl rfl rfl (d_move rfl rfl) (s_do rfl rfl rfl (d_field rfl (k := 3) (r := 3) (by kernel_rfl) rfl rfl) (s_put rfl rfl (n_store 1 H rfl rfl rfl rfl (vs := [.int .i64 (22 + (a_ : Int))]) rfl (by simp [u8, u32, Value.oneCell']) (by kernel_rfl) (by simp) (out := [.int .i64 (G.x.gen + 1), .int .i64 (G.x.epoch + 1), .int .i64 G.x.pages, .int .i64 (22 + (a_ : Int)), .int .i64 G.x.len, .int .i64 G.x.head, .int .i64 G.x.seq]) rfl) ?_)))))
          rintro w H'; have H := H'.l5; clear H'; refine s_end (k_seq (s_region (s_do rfl rfl rfl (d_move rfl rfl) (s_do rfl rfl rfl (d_field rfl (k := 4) (r := 4) (by kernel_rfl) rfl rfl) (s_put rfl rfl (n_store 1 H rfl rfl rfl rfl (vs := [.int .i64 (64 + (l_ : Int))]) rfl (by simp [u8, u32, Value.oneCell']) (by kernel_rfl) (by simp) (out := [.int .i64 (G.x.gen + 1), .int .i64 (G.x.epoch + 1), .int .i64 G.x.pages, .int .i64 (22 + (a_ : Int)), .int .i64 (64 + (l_ : Int)), .int .i64 G.x.head, .int .i64 G.x.seq]) rfl) ?_))))); rintro w H'; have H := H'.l5; clear H'; refine s_end (k_seq (s_region (s_do rfl rfl rfl (d_field rfl (k := 5) (r := 5) (by kernel_rfl) rfl rfl) (s_put rfl rfl (n_store 1 H rfl rfl rfl rfl (vs := [.int .i64 0]) rfl (by simp [u8, u32, Value.oneCell']) (by kernel_rfl) (by simp) (out := [.int .i64 (G.x.gen + 1), .int .i64 (G.x.epoch + 1), .int .i64 G.x.pages, .int .i64 (22 + (a_ : Int)), .int .i64 (64 + (l_ : Int)), .int .i64 0, .int .i64 G.x.seq]) rfl) ?_)))); rintro w H'; have H := H'.l5; clear H'; refine s_end (s_region (s_do rfl rfl rfl (d_field rfl (k := 6) (r := 6) (by kernel_rfl) rfl rfl) (s_put rfl rfl (n_store 1 H rfl rfl rfl rfl (vs := [.int .i64 1]) rfl (by simp [u8, u32, Value.oneCell']) (by kernel_rfl) (by simp) (out := [.int .i64 (G.x.gen + 1), .int .i64 (G.x.epoch + 1), .int .i64 G.x.pages, .int .i64 (22 + (a_ : Int)), .int .i64 (64 + (l_ : Int)), .int .i64 0, .int .i64 1]) rfl) ?_))); rintro w H'; have H := H'.l5; clear H'; refine s_end ?_; replace H := H.f2.d; have H' := H.mono 1 (B := blk b3 [.int .i64 ((swG G (22 + (a_ : Int)) (64 + (l_ : Int))).x.gen), .int .i64 ((swG G (22 + (a_ : Int)) (64 + (l_ : Int))).x.epoch), .int .i64 ((swG G (22 + (a_ : Int)) (64 + (l_ : Int))).x.pages), .int .i64 ((swG G (22 + (a_ : Int)) (64 + (l_ : Int))).x.start), .int .i64 ((swG G (22 + (a_ : Int)) (64 + (l_ : Int))).x.len), .int .i64 ((swG G (22 + (a_ : Int)) (64 + (l_ : Int))).x.head), .int .i64 ((swG G (22 + (a_ : Int)) (64 + (l_ : Int))).x.seq)] 49) rfl (fun h q => by exact q)
          clear H; have H := H'.l4; clear H'; exact fun _ hF => ⟨ps, D7, (swG G (22 + (a_ : Int)) (64 + (l_ : Int))), (hF.cons (hF.cons (hF.cons (hF.cons (hF.cons (hF.cons (hF.cons (hF.cons (hF.cons (hF.cons (hF.cons (hF.cons (hF.cons (hF.cons (hF.cons (hF.cons (hF.cons (hF.cons hF.nil 52 _ _ rfl rfl) 51 _ _ rfl rfl) 50 _ _ rfl rfl) 49 _ _ rfl rfl) 48 _ _ rfl rfl) 47 _ _ rfl rfl) 46 _ _ rfl rfl) 43 _ _ rfl rfl) 42 _ _ rfl rfl) 41 _ _ rfl rfl) 40 _ _ rfl rfl) 9 _ _ rfl rfl) 8 _ _ rfl rfl) 7 _ _ rfl rfl) 6 _ _ rfl rfl) 3 _ _ rfl rfl) 0 _ _ rfl rfl) 5 _ _ rfl rfl), H, ⟨fi7.le (by omega), hn7.trans hDn, hGp⟩⟩
       ·refine k_seq (s_region (s_do rfl rfl rfl (d_eql rfl rfl rfl) (s_do rfl rfl rfl (d_assign rfl rfl) (s_end (k_dec rfl (fun h12 => ?_) (fun h12 => ?_))))))
        ·refine k_seq (s_region (s_do rfl rfl rfl (d_move rfl rfl) (s_do rfl rfl rfl (d_field rfl (k := 6) (r := 6) (by kernel_rfl) rfl rfl) (s_do rfl rfl rfl (d_load rfl rfl (by kernel_rfl) (here (H.cel 3 rfl 6 rfl))) (s_C rfl rfl rfl rfl rfl (fun w => Tryz.call20 _ w) (crash_s _ _ _ _ _ (3 + 4 * i) fi (by omega) _ kl _ (fun h q => (hdp h q).1)) H.f4.f3 rfl ?_))))); rintro _ w _ ⟨Dc, hclc, hnc, hOc, rfl, rfl⟩ H'; have H := H'.l5; clear H'; refine s_end (k_seq (s_region (s_do rfl rfl rfl (d_move rfl rfl) (s_C rfl rfl rfl rfl rfl (fun w => Tryz.call9 _ w) (open_s _ _ _ _ _ _ hOc hclc ⟨fi.gen, fi.epoch⟩ (by omega)) H rfl ?_)))); rintro _ w _ ⟨ps4, D4, got4, hgd4, fi4, hn4, rfl, rfl⟩ H'; have H := H'.l5; clear H'; refine s_do rfl rfl rfl (d_move rfl rfl) (s_do rfl rfl rfl (d_extract rfl rfl rfl) (s_do rfl rfl rfl (d_extract rfl rfl rfl) (s_do rfl rfl rfl (d_assign rfl rfl) (s_do rfl rfl rfl (d_assign rfl rfl) (s_end (k_seq (k_seq (s_region (s_do rfl rfl rfl (d_move rfl rfl) (s_do rfl rfl rfl (d_eql_pn rfl (by kernel_rfl) rfl rfl) (s_do rfl rfl rfl (d_move rfl rfl) (s_do rfl rfl rfl (d_move rfl rfl) (s_do rfl rfl rfl (d_neq rfl rfl rfl) ?_))))))))))))); refine k_updA 165 (u := .bool (decide ((0 : Int) ≠ 0))) (v := .bool false) rfl (congrArg Value.bool (by decide)) (s_do rfl rfl rfl (d_pick_f rfl rfl rfl) (s_end (k_false rfl (k_skip (k_seq (s_region (s_do rfl rfl rfl (d_field rfl (k := 0) (r := 0) (by kernel_rfl) rfl rfl) (s_do rfl rfl rfl (d_load rfl rfl (by kernel_rfl) (here (H.cel 2 rfl 0 rfl))) (s_do rfl rfl rfl (d_add64 rfl rfl rfl (r := G.x.gen + 1) (by omega) (by omega)) (s_do rfl rfl rfl (d_field rfl (k := 0) (r := 0) (by kernel_rfl) rfl rfl) (s_put rfl rfl (n_store 2 H rfl rfl rfl rfl (vs := [.int .i64 (G.x.gen + 1)]) rfl (by simp [u8, u32, Value.oneCell']) (by kernel_rfl) (by simp) (out := [.int .i64 (G.x.gen + 1), .int .i64 G.x.epoch, .int .i64 G.x.pages, .int .i64 G.x.start, .int .i64 G.x.len, .int .i64 G.x.head, .int .i64 G.x.seq]) rfl) ?_)))))))))))
         rintro w H'; have H := H'.l5; clear H'; refine s_end (k_seq (s_region (s_do rfl rfl rfl (d_field rfl (k := 1) (r := 1) (by kernel_rfl) rfl rfl) (s_do rfl rfl rfl (d_load rfl rfl (by kernel_rfl) (here (H.cel 2 rfl 1 rfl))) (s_do rfl rfl rfl (d_add64 rfl rfl rfl (r := G.x.epoch + 1) (by omega) (by omega)) (s_do rfl rfl rfl (d_field rfl (k := 1) (r := 1) (by kernel_rfl) rfl rfl) (s_put rfl rfl (n_store 2 H rfl rfl rfl rfl (vs := [.int .i64 (G.x.epoch + 1)]) rfl (by simp [u8, u32, Value.oneCell']) (by kernel_rfl) (by simp) (out := [.int .i64 (G.x.gen + 1), .int .i64 (G.x.epoch + 1), .int .i64 G.x.pages, .int .i64 G.x.start, .int .i64 G.x.len, .int .i64 G.x.head, .int .i64 G.x.seq]) rfl) ?_))))))); rintro w H'; have H := H'.l5; clear H'; refine s_end (k_seq (s_region (s_do rfl rfl rfl (d_field rfl (k := 5) (r := 5) (by kernel_rfl) rfl rfl) (s_put rfl rfl (n_store 2 H rfl rfl rfl rfl (vs := [.int .i64 0]) rfl (by simp [u8, u32, Value.oneCell']) (by kernel_rfl) (by simp) (out := [.int .i64 (G.x.gen + 1), .int .i64 (G.x.epoch + 1), .int .i64 G.x.pages, .int .i64 G.x.start, .int .i64 G.x.len, .int .i64 0, .int .i64 G.x.seq]) rfl) ?_)))); rintro w H'; have H := H'.l5; clear H'; refine s_end (s_region (s_do rfl rfl rfl (d_field rfl (k := 6) (r := 6) (by kernel_rfl) rfl rfl) (s_put rfl rfl (n_store 2 H rfl rfl rfl rfl (vs := [.int .i64 1]) rfl (by simp [u8, u32, Value.oneCell']) (by kernel_rfl) (by simp) (out := [.int .i64 (G.x.gen + 1), .int .i64 (G.x.epoch + 1), .int .i64 G.x.pages, .int .i64 G.x.start, .int .i64 G.x.len, .int .i64 0, .int .i64 1]) rfl) ?_))); rintro w H'; have H := H'.l5; clear H'
         refine s_end ?_; replace H := H.f3.d.f1.f3.f3.f3; have H' := H.mono 1 (B := blk b3 [.int .i64 ((opG G.x (pgMap (ov got4) G.B)).x.gen), .int .i64 ((opG G.x (pgMap (ov got4) G.B)).x.epoch), .int .i64 ((opG G.x (pgMap (ov got4) G.B)).x.pages), .int .i64 ((opG G.x (pgMap (ov got4) G.B)).x.start), .int .i64 ((opG G.x (pgMap (ov got4) G.B)).x.len), .int .i64 ((opG G.x (pgMap (ov got4) G.B)).x.head), .int .i64 ((opG G.x (pgMap (ov got4) G.B)).x.seq)] 49) rfl (fun h q => by exact q)
         clear H; have H := H'.l4; clear H'; exact fun _ hF => ⟨ps4, D4, (opG G.x (pgMap (ov got4) G.B)), (hF.cons (hF.cons (hF.cons (hF.cons (hF.cons (hF.cons (hF.cons (hF.cons (hF.cons (hF.cons (hF.cons (hF.cons (hF.cons (hF.cons (hF.cons (hF.cons (hF.cons (hF.cons hF.nil 52 _ _ rfl rfl) 51 _ _ rfl rfl) 50 _ _ rfl rfl) 49 _ _ rfl rfl) 48 _ _ rfl rfl) 47 _ _ rfl rfl) 46 _ _ rfl rfl) 43 _ _ rfl rfl) 42 _ _ rfl rfl) 41 _ _ rfl rfl) 40 _ _ rfl rfl) 9 _ _ rfl rfl) 8 _ _ rfl rfl) 7 _ _ rfl rfl) 6 _ _ rfl rfl) 3 _ _ rfl rfl) 0 _ _ rfl rfl) 5 _ _ rfl rfl), H, ⟨fi4.le (by omega), hn4.trans (hnc.trans hDn), hGp⟩⟩
        ·(exfalso; omega)
   rintro a w ⟨psn, D2, G2, hF, H, hI⟩; revert a; obtain ⟨fi2, hDn2, hGp2⟩ := hI; have hSi2 := H.says 0 rfl (fun h q => q.inv)
   have hge21 := hSi2.gen
   have hep21 := hSi2.s.epoch
   have hge20 := fi2.gen
   have hep20 := fi2.epoch
   refine k_seq (k_seq (q_region (Sep z _) (by kernel_rfl) (by kernel_rfl) H.drew (q_do rfl rfl rfl (d_move rfl rfl) (q_call rfl rfl rfl rfl rfl (fun w => Tryz.call21 _ w) (v := .agg #[.int .i64 G2.x.gen, .int .i64 G2.x.epoch, .int .i64 G2.x.pages, .int .i64 G2.x.start, .int .i64 G2.x.len, .int .i64 G2.x.head, .int .i64 G2.x.seq]) (cq (super_s psn pd D2 G2 none) (by rintro _ _ ⟨rfl, rfl⟩; exact ⟨rfl, rfl⟩) 1 [0] [0] rfl rfl rfl rfl) (q_do rfl rfl rfl (d_loadAgg rfl rfl (vs := [.int .i64 G2.x.gen, .int .i64 G2.x.epoch, .int .i64 G2.x.pages, .int .i64 G2.x.start, .int .i64 G2.x.len, .int .i64 G2.x.head, .int .i64 G2.x.seq]) (by kernel_rfl) (fun _ hx => (hx.blk 1 rfl).part 0 7 _ rfl)) (q_do rfl rfl rfl (d_neqSame (cs := #[.int .i64 G2.x.gen, .int .i64 G2.x.epoch, .int .i64 G2.x.pages, .int .i64 G2.x.start, .int .i64 G2.x.len, .int .i64 G2.x.head, .int .i64 G2.x.seq]) rfl (by kernel_rfl) (by kernel_rfl) (by kernel_rfl) rfl rfl) (q_end (fun w H' => ?_)))))))); have H := H'.l4; clear H'; refine k_false rfl (k_skip (k_seq (s_region (s_do rfl rfl rfl (d_move rfl rfl) (s_C rfl rfl rfl rfl rfl (fun w => Tryz.call11 _ w) (begin_s _ _ _ _) H rfl ?_))))); rintro _ w _ ⟨rfl, rfl⟩ H'; have H := H'.l4; clear H'; refine s_end (k_seq ?_); replace H := H.f2; refine a_region (Sep z (blk b1 [.int .i64 dm.k0, .int .i64 dm.k1, .int .i64 dm.k2, .int .i64 dm.k3, .int .i64 dm.k4, .int .i64 dm.k5, pv] 34 :: R)) 9 rfl (by kernel_rfl) (fun w' x' _ => ?_); have H' := H.ext0 x'; clear x' H; revert H'; generalize w' = w; intro H'
   have H := H'.l4; clear H'; refine a_do 0 rfl (by kernel_rfl) (by kernel_rfl) (by kernel_rfl) rfl rfl rfl (d_move rfl rfl) (H.pick 4 [0] rfl) (a_do 1 rfl (by kernel_rfl) (by kernel_rfl) (by kernel_rfl) rfl rfl rfl (d_field rfl (k := 1) (r := 1) (by kernel_rfl) rfl rfl) (H.pick 4 [0] rfl) (a_do 2 rfl (by kernel_rfl) (by kernel_rfl) (by kernel_rfl) rfl rfl rfl (d_load rfl rfl (by kernel_rfl) (fun _ hx => hx.cel 0 rfl 1 rfl)) (H.pick 4 [0] rfl) (a_do 4 rfl (by kernel_rfl) (by kernel_rfl) (by kernel_rfl) rfl rfl rfl (d_field rfl (k := 3) (r := 3) (by kernel_rfl) rfl rfl) (H.pick 4 [0] rfl) (a_do 5 rfl (by kernel_rfl) (by kernel_rfl) (by kernel_rfl) rfl rfl rfl (d_load rfl rfl (by kernel_rfl) (fun _ hx => hx.cel 0 rfl 3 rfl)) (H.pick 4 [0] rfl) (a_do 6 rfl (by kernel_rfl) (by kernel_rfl) (by kernel_rfl) rfl rfl rfl (d_build rfl rfl (out := [.int .i64 0, .int .i64 0, .int .i64 5, .int .i64 dm.k3, .int .i64 0, .int .i64 0, .slice none 0 0]) (by kernel_rfl)) (H.pick 4 [0] rfl) (a_all [3] (by kernel_rfl) (by simp) (all1 (o_C rfl rfl rfl rfl rfl rfl (fun w => Tryz.call10 _ w) (pick_c _ 20 hd1 (by omega)) H rfl ?_)))))))); rintro _ w _ ⟨n_, hn_, rfl, rfl⟩ H'; have H := H'.l4; clear H'; refine a_and (H.pick 4 [0] rfl) (a_all [7] (by kernel_rfl) (by simp) (all1 (o_C rfl rfl rfl rfl rfl rfl (fun w => Tryz.call13 _ w) (page_c _ _ _ _ _ _ rfl) H rfl ?_))); rintro _ w _ ⟨pb5, rfl, rfl⟩ H'; have H := H'.l5; clear H'; refine a_and (H.pick 5 [1] rfl) (a_all [8] (by kernel_rfl) (by simp) (all1 (o_C rfl rfl rfl rfl rfl rfl (fun w => Tryz.call12 _ w) (write_s psn pd D2 G2 _ _ n_ (by omega) (pgF 5 dm.k3) (pgF_ok _ (by omega)) _ _ (fun h q => blk_rd0 q (by rw [List.length_map]; exact pgF_len _ _))) H.f2 rfl ?_)))
   rintro _ w _ (⟨hbad, rfl, rfl⟩ | ⟨_, rfl, rfl⟩) H'
   ·(exfalso; have hbk := hbad.2; omega)
   ·have H := H'.l5; clear H'; refine a_and (H.pick 5 [2] rfl) (a_done (by kernel_rfl) (k_seq (s_region (s_do rfl rfl rfl (d_move rfl rfl) (s_C rfl rfl rfl rfl rfl (fun w => Tryz.call21 _ w) (super_s psn pd D2 G2 (some (pgSet noPgs n_ (pgF 5 dm.k3), 1))) H rfl ?_))))); rintro _ w _ ⟨rfl, rfl⟩ H'; have H := H'.l5; clear H'; refine s_do rfl rfl rfl (d_fieldV (v := .int .i64 G2.x.gen) rfl rfl (by kernel_rfl)) (s_do rfl rfl rfl (d_assign rfl rfl) (s_end (k_seq ?_))); replace H := H.f3; refine a_region (Sep z (blk b3 [.int .i64 G2.x.gen, .int .i64 G2.x.epoch, .int .i64 G2.x.pages, .int .i64 G2.x.start, .int .i64 G2.x.len, .int .i64 G2.x.head, .int .i64 G2.x.seq] 49 :: R)) 19 rfl (by kernel_rfl) (fun w' x' _ => ?_); have H' := H.ext0 x'; clear x' H; revert H'; generalize w' = w; intro H'
    have H := H'.l5; clear H'; refine a_do 0 rfl (by kernel_rfl) (by kernel_rfl) (by kernel_rfl) rfl rfl rfl (d_move rfl rfl) (H.pick 5 [0] rfl) (a_all [1] (by kernel_rfl) (by simp) (all1 (o_C rfl rfl rfl rfl rfl rfl (fun w => Tryz.call15 _ w) (commit_s _ _ _ _ _ _ (3 + 4 * i + 2) fi2 (by omega)) H.f1 rfl ?_))); rintro _ w _ ⟨D5, G5, fi5, hn5, hM5, hx5, rfl, rfl⟩ H'; have H := H'.l5; clear H'; have hgp5 : G5.x.gen ≤ G2.x.gen + 1 ∧ G5.x.epoch = G2.x.epoch ∧ G5.x.pages = G2.x.pages := by rcases hx5 with e | e <;> rw [e]; exact ⟨by omega, rfl, rfl⟩; exact ⟨Int.le_refl _, rfl, rfl⟩
    have hGp5 := hgp5.2.2.trans hGp2
    refine a_and (H.pick 5 [1] rfl) (a_do 2 rfl (by kernel_rfl) (by kernel_rfl) (by kernel_rfl) rfl rfl rfl (d_neq rfl rfl rfl) (H.pick 5 [1] rfl) (k_updA 197 (u := .bool (decide ((0 : Int) ≠ 0))) (v := .bool false) rfl (congrArg Value.bool (by decide)) (a_do 3 rfl (by kernel_rfl) (by kernel_rfl) (by kernel_rfl) rfl rfl rfl (d_move rfl rfl) (H.pick 5 [1] rfl) (a_do 4 rfl (by kernel_rfl) (by kernel_rfl) (by kernel_rfl) rfl rfl rfl (d_move rfl rfl) (H.pick 5 [1] rfl) (a_do 7 rfl (by kernel_rfl) (by kernel_rfl) (by kernel_rfl) rfl rfl rfl (d_move rfl rfl) (H.pick 5 [1] rfl) (a_do 8 rfl (by kernel_rfl) (by kernel_rfl) (by kernel_rfl) rfl rfl rfl (d_add64 rfl rfl rfl (r := G2.x.gen + 1) (by omega) (by omega)) (H.pick 5 [1] rfl) (a_all [5] (by kernel_rfl) (by simp) (all1 (o_C rfl rfl rfl rfl rfl rfl (fun w => Tryz.call21 _ w) (super_s psn pd D5 G5 none) H rfl ?_))))))))); rintro _ w _ ⟨rfl, rfl⟩ H'; have H := H'.l5; clear H'; refine a_and (H.pick 5 [1] rfl) (a_do 6 rfl (by kernel_rfl) (by kernel_rfl) (by kernel_rfl) rfl rfl rfl (d_fieldV (v := .int .i64 G5.x.gen) rfl rfl (by kernel_rfl)) (H.pick 5 [1] rfl) (a_do 9 rfl (by kernel_rfl) (by kernel_rfl) (by kernel_rfl) rfl rfl rfl (d_gtr rfl rfl rfl) (H.pick 5 [1] rfl) (k_updA 204 (u := .bool (decide ((G2.x.gen + 1 : Int) < G5.x.gen))) (v := .bool false) rfl (congrArg Value.bool (decide_eq_false (by omega))) (a_do 10 rfl (by kernel_rfl) (by kernel_rfl) (by kernel_rfl) rfl rfl rfl (d_pick_f rfl rfl rfl) (H.pick 5 [1] rfl) (a_do 11 rfl (by kernel_rfl) (by kernel_rfl) (by kernel_rfl) rfl rfl rfl (d_move rfl rfl) (H.pick 5 [1] rfl) (a_do 12 rfl (by kernel_rfl) (by kernel_rfl) (by kernel_rfl) rfl rfl rfl (d_move rfl rfl) (H.pick 5 [1] rfl) (a_do 15 rfl (by kernel_rfl) (by kernel_rfl) (by kernel_rfl) rfl rfl rfl (d_field rfl (k := 1) (r := 1) (by kernel_rfl) rfl rfl) (H.pick 5 [1] rfl) (a_do 16 rfl (by kernel_rfl) (by kernel_rfl) (by kernel_rfl) rfl rfl rfl (d_load rfl rfl (by kernel_rfl) (fun _ hx => hx.cel 0 rfl 1 rfl)) (H.pick 5 [1] rfl) (a_all [13] (by kernel_rfl) (by simp) (all1 (o_C rfl rfl rfl rfl rfl rfl (fun w => Tryz.call21 _ w) (super_s psn pd D5 G5 none) H rfl ?_)))))))))))
    rintro _ w _ ⟨rfl, rfl⟩ H'; have H := H'.l5; clear H'; refine a_and (H.pick 5 [1] rfl) (a_do 14 rfl (by kernel_rfl) (by kernel_rfl) (by kernel_rfl) rfl rfl rfl (d_fieldV (v := .int .i64 G5.x.epoch) rfl rfl (by kernel_rfl)) (H.pick 5 [1] rfl) (a_do 17 rfl (by kernel_rfl) (by kernel_rfl) (by kernel_rfl) rfl rfl rfl (d_neq rfl rfl rfl) (H.pick 5 [1] rfl) (k_updA 212 (u := .bool (decide ((G5.x.epoch : Int) ≠ G2.x.epoch))) (v := .bool false) rfl (congrArg Value.bool (decide_eq_false (by omega))) (a_do 18 rfl (by kernel_rfl) (by kernel_rfl) (by kernel_rfl) rfl rfl rfl (d_pick_f rfl rfl rfl) (H.pick 5 [1] rfl) (a_done (by kernel_rfl) (k_false rfl (k_skip ?_))))))); replace H := H.f3.d.f2.d.f1.d; refine s_region (s_do rfl rfl rfl (d_move rfl rfl) (s_do rfl rfl rfl (d_add64 rfl rfl rfl (r := (i : Int) + 1) (by omega) (by omega)) (s_do rfl rfl rfl (d_assign rfl rfl) (s_end ?_)))); intro _ hF; refine ⟨⟨i + 1, D5, G5, psn⟩, (hF.cons (hF.cons (hF.cons (hF.cons hF.nil 3 _ _ rfl rfl) 0 _ _ rfl rfl) 5 _ _ rfl rfl) 6 _ _ rfl (by go_num)), ⟨H, ?_⟩, ?_⟩
    ·exact ⟨by omega, fi5.le (by omega), hn5.trans hDn2, hGp5⟩
    ·(dsimp only; omega)
  ·refine k_exit (k_here (k_seq (s_region (s_C rfl rfl rfl rfl rfl (fun w => Tryz.call17 _ w) (lives_c ) H rfl ?_)))); rintro _ w _ ⟨rfl, rfl⟩ H'; have H := H'.l2; clear H'; refine s_do rfl rfl rfl (d_assign rfl rfl) (s_end (k_ret (doneL rfl [.bool true] ⟨rfl, trivial⟩ (v := .bool true) rfl ?_))); exact ⟨[A], ⟨rfl, rfl⟩, H.perm 2 [1] rfl rfl⟩
end Go.Proofs.YtkobdhlkgmjhbaaGreatDoor
namespace Go.Proofs.YtkobdhlkgmjhbaaGreatDoor
open Go.ChangeShapes Go.WideShapes Go.ChangeAt Go.RowKit Go.Joins
theorem gen6_met (os : Os) : laidMet Tryz.prog Rows.storeGensUptoRow.laid ((laidWorld os).forCall (fun _ _ => 0) ⟨#[], #[.slice none 0 0], []⟩).memory :=
  laidMet_of_run' 8 (by kernel_rfl) (by kernel_rfl)
theorem gen6_reads (os : Os) {H : Type} (enc : TypeId × Value → H) : ∃ places, DataW.whole enc Tryz.prog ((laidWorld os).forCall (fun _ _ => 0) ⟨#[], #[.slice none 0 0], []⟩).memory Tryz.f6.params.toList Rows.storeGensSpec.vars false #[Value.slice none 0 0].toList 8 = some ([.nil], [], places) :=
  ⟨[], by kernel_rfl⟩
theorem gen6_contract (H : Type) (enc : TypeId × Value → H) (W : World) (base : Nat) (args : Array Value) (ds gs : List (DataW H)) (before : List MemPlace)
    (hval : ∀ (j : Nat) t v, Tryz.f6.params[j]? = some t → args[j]? = some v → Value.okWide Tryz.prog W .any base t v)
    (hW : DataW.Whole enc Tryz.prog Tryz.f6.params.toList Rows.storeGensSpec.vars false W args.toList ds gs before) (hk : Rows.uptoSmall H (ds ++ gs) = true) :
    Calls Tryz.prog 6 args W fun e W' => ∃ v, e = .returned v ∧ Rows.storeGensSpec.post enc Tryz.prog Tryz.f6 false true false false W args v W' := by
  have hW0 := hW
  obtain ⟨p, q, hA0, hV, rfl, _, _⟩ := hW
  have hA : DataW.TrodAll enc Tryz.prog W 0 (fun _ => true) true Tryz.f6.params.toList args.toList ds p := hA0
  rw [Tryz.params6] at hA hval
  obtain ⟨v0, d0, rfl, rfl, h0⟩ := trodAll_one hA
  obtain ⟨rfl, rfl⟩ := trodVars_none hV
  simp only [List.append_nil] at hW0 hk
  have t0 : ∀ x ∈ p, x.block < W.heap.size := fun x hx => by have := hW0.lt x (by simp [hx]); simpa using this
  have hb : Rows.uptoBulkAll [d0] ≤ 1048576 := of_decide_eq_true hk
  simp only [Rows.uptoBulkAll] at hb
  obtain ⟨ao0, l0, c0, rfl⟩ := okWide_slice Tryz.underlying22 (hval 0 22 v0 rfl rfl)
  obtain ⟨fuel0, hf0⟩ := id h0
  obtain ⟨es, hr, hes, hlen⟩ := open_dds (h := hf0)
  refine (Cn.run (storeGens_c _ es (by omega) (YtkobdhlkgmjhbaaGreatDoor.base W) (fun h hh => ⟨rd_base hr h hh, fun e he => ⟨rd_base (hes e he).1 h hh, (hes e he).2⟩⟩))).mono fun e W' hR => ?_
  obtain ⟨u, rfl, rfl, x⟩ : ∃ u, e = Ending.returned u ∧ u = .bool true ∧ Ext No W W' := by cases e <;> first | exact ⟨_, rfl, hR⟩ | exact hR.elim
  exact ⟨_, rfl, _, _, _, [], _, [], hW0, trodAll_mk1 (shut_bool Tryz.underlying4 true), trodAll_mk1 (Below.trod laidOut (by kernel_rfl) (of_decide_eq_true (by kernel_rfl)) h0 x.below t0), rfl, x.below.frame _, fun h => by cases h⟩
theorem gen6_lifted (os : Os) (started : os.Started) (H : Type) (enc : TypeId × Value → H) (F : Stop.Interp) :
    ReturnsInHanded {} Tryz.checked os 6 .any ((Rows.OpenSpec.upto Rows.storeGensSpec).preRow enc Tryz.prog Tryz.f6 Rows.storeGensUptoRow.domain false Rows.storeGensUptoRow.laid) (((Rows.OpenSpec.upto Rows.storeGensSpec).at F).post enc Tryz.prog Tryz.f6 false true false false) := by
  obtain ⟨places, hx⟩ := gen6_reads os enc
  refine returnsInHanded_of_row (C := Tryz.checked) (s := Rows.OpenSpec.upto Rows.storeGensSpec) own started (by kernel_rfl) Tryz.func6
    (witness_row_at (enc := enc) (C := Tryz.checked) false (laidWorld os) #[.slice none 0 0] rfl (by kernel_rfl) (by kernel_rfl) (by kernel_rfl)
      (OpenSpec.preRow_of_cond 8 hx (by kernel_rfl) (fun k hk => by cases hk; kernel_rfl) (by kernel_rfl) (gen6_met os))) ?_
  intro W base args ds gs before hval hW _ hcond _ _ _ _
  exact gen6_contract H enc W base args ds gs before hval hW (hcond _ rfl)
theorem gen6_said : Rows.StoreGensUptoSaid :=
  OpenClaim.holds_of_cond 6 Tryz.f6 rfl rfl rfl rfl rfl rfl rfl ⟨rfl, rfl, rfl, rfl, rfl⟩ rfl rfl rfl rfl rfl (by kernel_rfl) Tryz.func6 (by kernel_rfl)
    (of_decide_eq_true (by kernel_rfl)) (by unfold Func.isWrapper; first | (rw [if_pos (by decide +kernel)]; kernel_rfl) | (rw [if_neg (by decide +kernel)]; exact ⟨rfl, rfl⟩))
    (fun os started H enc _ F => by rw [OpenClaim.pre_eq_preRow]; exact gen6_lifted os started H enc F)
theorem gen6_plain (f : FuncId) (fn : Func) (hf : Tryz.pinned.checked.prog.funcNamed "polder/polderlaw06.StoreGens" = some f) (hfn : Tryz.pinned.checked.prog.funcs[f]? = some fn) :
    false = Tryz.pinned.checked.prog.looks [] ∧ ∀ (j : Nat) t, fn.params[j]? = some t → Tryz.pinned.checked.prog.wantsStandIn t = false := by
  obtain rfl : f = 6 := Option.some.inj ((show Tryz.prog.funcNamed "polder/polderlaw06.StoreGens" = some 6 by kernel_rfl).symm.trans hf) |>.symm
  obtain rfl : fn = Tryz.f6 := (Option.some.inj (Tryz.func6.symm.trans hfn)).symm
  refine ⟨by kernel_rfl, fun j t ht => ?_⟩
  rw [Tryz.params6] at ht
  have hm := Array.mem_of_getElem? ht
  simp at hm
  subst hm
  exact (show Tryz.prog.wantsStandIn 22 = false by kernel_rfl)
theorem storeGens_holds : Rows.StoreGensUptoCardSaid :=
  Claim7.holds_tied_plain_at .later [] _ _ _ _ gen6_said (fun _ h => by cases h) (by kernel_rfl) (fun _ h => by cases h) storeGensUpto_row_tie rfl ⟨rfl, rfl⟩ (by kernel_rfl) rfl gen6_plain (by kernel_rfl)
end Go.Proofs.YtkobdhlkgmjhbaaGreatDoor
