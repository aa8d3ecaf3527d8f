/-
  Walks: a disk that is told to fail; what Append writes lies in the ring. No condition.
-/
import Derived.Test.YtanejicgmgpjcaaGreatDoorLogZE
set_option maxRecDepth 100000
namespace Go.Proofs.YtanejicgmgpjcaaGreatDoor
open Go.RowKit

/-- what is written into a log's ring alone -/
def Ins (s : Sup) (D D' : Dsk) : Prop := D'.n = D.n ∧ (∀ i : Nat, ¬ (s.start ≤ (i : Int) ∧ (i : Int) < s.start + s.len) → D'.ver i = D.ver i) ∧ ∀ i, (D'.ver i).length ≤ (D.ver i).length + 2
theorem wr_out (D : Dsk) (x : Nat) (ps : List (List UInt8)) (j : Nat) (h : j < x ∨ x + ps.length ≤ j) : (D.wr x ps).ver j = D.ver j := Dsk.ws_ver false ps { D with f2 := tick D.f2 } x j h
theorem Ins.refl (s : Sup) (D : Dsk) : Ins s D D := ⟨rfl, fun _ _ => rfl, fun _ => by omega⟩
theorem Ins.one {s : Sup} {D : Dsk} {x : Nat} {ps : List (List UInt8)} (h1 : s.start ≤ x) (h2 : (x : Int) + ps.length ≤ s.start + s.len) : Ins s D (D.wr x ps) :=
  ⟨Dsk.wr_n _ _ _, fun i hi => wr_out _ _ _ _ (by omega), fun i => by have := Dsk.wr_len D x ps i; omega⟩
theorem Ins.two {s : Sup} {D : Dsk} {x y : Nat} {ps qs : List (List UInt8)} (h1 : s.start ≤ x) (h2 : (x : Int) + ps.length ≤ s.start + s.len) (h3 : s.start ≤ y) (h4 : (y : Int) + qs.length ≤ s.start + s.len) : Ins s D ((D.wr x ps).wr y qs) :=
  ⟨by rw [Dsk.wr_n, Dsk.wr_n], fun i hi => by rw [wr_out _ _ _ _ (by omega), wr_out _ _ _ _ (by omega)], fun i => by have := Dsk.wr_len D x ps i; have := Dsk.wr_len (D.wr x ps) y qs i; omega⟩
theorem appendI_c (pl pd pt : Nat) (s : Sup) (at_ sq us : Int) (br nu : Bool) (v : Value) (ims : List Img) (A : Asn) (hA : ∀ h, A h → imgsH v ims h) (D : Dsk) (hok : s.Ok (D.n : Int)) (hnu : nu = decide (s.epoch < 4294967296)) (hat : 0 ≤ at_ ∧ at_ < s.len) (hsq : 0 ≤ sq ∧ sq ≤ 2199023255552) (hu : 0 ≤ us ∧ us ≤ s.len) (hver : ∀ i, (D.ver i).length ≤ 1000000000000) :
    Cn Tryz.prog 9 [.pointer (some ⟨pl, 0, none⟩), v] [blk pl [.pointer (some ⟨pd, 0, none⟩), .pointer (some ⟨pt, 0, none⟩), .int .i64 s.gen, .int .i64 s.epoch, .int .i64 s.pages, .int .i64 s.start, .int .i64 s.len, .int .i64 s.head, .int .i64 s.seq, .int .i64 at_, .int .i64 sq, .int .i64 us, .bool br, .bool nu] 77, tblA pt, diskA pd D, A] (fun v Γ => ∃ (c : Int) (D' : Dsk) (a q u : Int) (b : Bool), (Ins s D D' ∧ (0 ≤ a ∧ a < s.len) ∧ (sq ≤ q ∧ q ≤ sq + 1) ∧ (0 ≤ u ∧ u ≤ s.len)) ∧ v = .int .i64 c ∧ Γ = [blk pl [.pointer (some ⟨pd, 0, none⟩), .pointer (some ⟨pt, 0, none⟩), .int .i64 s.gen, .int .i64 s.epoch, .int .i64 s.pages, .int .i64 s.start, .int .i64 s.len, .int .i64 s.head, .int .i64 s.seq, .int .i64 a, .int .i64 q, .int .i64 u, .bool b, .bool nu] 77, tblA pt, diskA pd D', A]) := by
  refine Cn.mono (append_c pl pd pt s at_ sq us br nu v ims A hA D hok hnu hat hsq hu hver) ?_
  have hs := Sup.get hok
  have hk2 := hok.2
  have hm1 := Int.emod_nonneg (at_ + (1 + (ims.length : Int))) (by omega : s.len ≠ 0)
  have hm2 := Int.emod_lt_of_pos (at_ + (1 + (ims.length : Int))) (by omega : 0 < s.len)
  rintro v Γ (⟨h1, rfl, rfl⟩ | ⟨h1, h2, rfl, rfl⟩ | ⟨h1, h2, h3, rfl, rfl⟩ | ⟨h1, h2, h3, k, hk, h4⟩)
  · exact ⟨_, D, at_, sq, us, br, ⟨Ins.refl s D, hat, by omega, hu⟩, rfl, rfl⟩
  · exact ⟨_, D, at_, sq, us, br, ⟨Ins.refl s D, hat, by omega, hu⟩, rfl, rfl⟩
  · exact ⟨_, D, at_, sq, us, br, ⟨Ins.refl s D, hat, by omega, hu⟩, rfl, rfl⟩
  · have hpl := (recB_ok (e := s.epoch) (sq := sq) h2.1 h1.2).2
    have h3' := h3.1
    have hroom : 1 + (ims.length : Int) ≤ s.len - us := by split at h3' <;> omega
    have hx : s.start ≤ (((s.start + at_).toNat : Nat) : Int) ∧ (((s.start + at_).toNat : Nat) : Int) + ((recB s.epoch sq ims).take k).length ≤ s.start + s.len := by
      rw [List.length_take, hpl]; omega
    have hy : s.start ≤ ((s.start.toNat : Nat) : Int) ∧ ((s.start.toNat : Nat) : Int) + ((recB s.epoch sq ims).drop k).length ≤ s.start + s.len := by
      rw [List.length_drop, hpl]; omega
    have hwf : Ins s D D.wf := ⟨rfl, fun _ _ => rfl, fun _ => by show (D.ver _).length ≤ _; omega⟩
    rcases h4 with ⟨_, h5, rfl, rfl⟩ | ⟨_, h5, _, rfl, rfl⟩ | ⟨h5, rfl, rfl⟩ | ⟨_, _, h5, rfl, rfl⟩
    · exact ⟨_, _, (at_ + (1 + (ims.length : Int))) % s.len, sq + 1, us + (1 + (ims.length : Int)), br, ⟨Ins.one hx.1 hx.2, ⟨hm1, hm2⟩, by omega, by omega⟩, rfl, rfl⟩
    · exact ⟨_, _, (at_ + (1 + (ims.length : Int))) % s.len, sq + 1, us + (1 + (ims.length : Int)), br, ⟨Ins.two hx.1 hx.2 hy.1 hy.2, ⟨hm1, hm2⟩, by omega, by omega⟩, rfl, rfl⟩
    · exact ⟨_, _, at_, sq + 1, us, true, ⟨hwf, hat, by omega, hu⟩, rfl, rfl⟩
    · have h1 := Ins.one (D := D) hx.1 hx.2
      exact ⟨_, Dsk.wf (D.wr (s.start + at_).toNat ((recB s.epoch sq ims).take k)), at_, sq + 1, us, true, ⟨⟨h1.1, fun i hi => h1.2.1 i hi, fun i => h1.2.2 i⟩, hat, by omega, hu⟩, rfl, rfl⟩
theorem fail1_c (pd : Nat) (D : Dsk) (x : Int) : Cn Tryz.prog 12 [.pointer (some ⟨pd, 0, none⟩), .int .i64 1, .int .i64 x] [diskA pd D] (fun v Γ => (¬ (1 ≤ x ∧ x ≤ 1099511627776) ∧ v = .int .i64 1 ∧ Γ = [diskA pd D]) ∨ ((1 ≤ x ∧ x ≤ 1099511627776) ∧ v = .int .i64 0 ∧ Γ = [diskA pd { D with f1 := x }])) := by
  intro z R w H'
  have H : Sep z (diskA pd D :: R) w := H'
  clear H'
  obtain ⟨bd, m, f0, bs, es, clk, hq, hD, hIn, H'⟩ := H.disk
  clear H
  have hn1 := hD.n1; have hn2 := hD.n2; have hf1 := hD.f1; have hf2 := hD.f2; have hf3 := hD.f3; have hlf := hD.left; have hbl := hIn.len
  have H : Sep z (blk pd [.slice (some ⟨bd, 0, none⟩) (D.n * 256) (D.n * 256), .map (some m), .int .i64 f0, .int .i64 D.f1, .int .i64 D.f2, .int .i64 D.f3, .bool D.cut, .int .i64 D.left] 74 :: blk bd (bs.map u8) 5 :: mapB m (es.map Ent.ie) clk :: poolA hq :: seps (es.map Ent.row) :: R) w := H'
  clear H'
  refine enter Tryz.func12 rfl 27 Tryz.ntmps12 rfl ?_
  refine k_seq ?_
  refine s_region ?_
  refine s_do rfl rfl rfl (d_assign rfl rfl) ?_
  refine s_end ?_
  refine k_seq ?_
  refine k_seq ?_
  refine s_region ?_
  refine s_do rfl rfl rfl (d_move rfl rfl) ?_
  refine s_do rfl rfl rfl (d_lss rfl rfl rfl) ?_
  refine k_updA 8 (u := .bool (decide ((1 : Int) < 1))) (v := .bool false) rfl (congrArg Value.bool (by decide)) ?_
  refine s_do rfl rfl rfl (d_move rfl rfl) ?_
  refine s_do rfl rfl rfl (d_move rfl rfl) ?_
  refine s_do rfl rfl rfl (d_gtr rfl rfl rfl) ?_
  refine k_updA 11 (u := .bool (decide ((3 : Int) < 1))) (v := .bool false) rfl (congrArg Value.bool (by decide)) ?_
  refine s_do rfl rfl rfl (d_pick_f rfl rfl rfl) ?_
  refine s_do rfl rfl rfl (d_move rfl rfl) ?_
  refine s_do rfl rfl rfl (d_move rfl rfl) ?_
  refine s_do rfl rfl rfl (d_lss rfl rfl rfl) ?_
  refine s_do rfl rfl rfl (d_pick_f rfl rfl rfl) ?_
  refine s_do rfl rfl rfl (d_move rfl rfl) ?_
  refine s_part 17 rfl (fun h1 => ?_) (fun h1 => ?_)
  · -- yes: (x : Int) < 1
    refine s_skip rfl rfl rfl ?_
    refine s_skip rfl rfl rfl ?_
    refine s_do rfl rfl rfl (d_pick_t rfl rfl rfl) ?_
    refine s_end ?_
    refine k_true rfl ?_
    refine k_seq ?_
    refine s_region ?_
    refine s_do rfl rfl rfl (d_assign rfl rfl) ?_
    refine s_end ?_
    refine k_ret ?_
    refine doneL rfl [.int .i64 1] ⟨rfl, trivial⟩ (v := .int .i64 1) rfl ?_
    have H' := Sep.toDisk (D := D) (pd := pd) (bd := bd) (m := m) (f0 := f0) (bs := bs) (es := es) (clk := clk) (hq := hq) (Γ := R) H hD hIn
    have H : Sep z (diskA pd D :: R) w := H'
    clear H'
    exact ⟨[diskA pd D], .inl ⟨by omega, rfl, rfl⟩, H⟩
  · -- no: (x : Int) < 1
    refine s_do rfl rfl rfl (d_move rfl rfl) ?_
    refine s_do rfl rfl rfl (d_gtr rfl rfl rfl) ?_
    refine s_do rfl rfl rfl (d_pick_f rfl rfl rfl) ?_
    refine s_end ?_
    refine k_dec rfl (fun h2 => ?_) (fun h2 => ?_)
    · -- yes: (1099511627776 : Int) < x
      refine k_seq ?_
      refine s_region ?_
      refine s_do rfl rfl rfl (d_assign rfl rfl) ?_
      refine s_end ?_
      refine k_ret ?_
      refine doneL rfl [.int .i64 1] ⟨rfl, trivial⟩ (v := .int .i64 1) rfl ?_
      have H' := Sep.toDisk (D := D) (pd := pd) (bd := bd) (m := m) (f0 := f0) (bs := bs) (es := es) (clk := clk) (hq := hq) (Γ := R) H hD hIn
      have H : Sep z (diskA pd D :: R) w := H'
      clear H'
      exact ⟨[diskA pd D], .inl ⟨by omega, rfl, rfl⟩, H⟩
    · -- no: (1099511627776 : Int) < x
      refine k_skip ?_
      refine k_seq ?_
      refine s_region ?_
      refine s_do rfl rfl rfl (d_move rfl rfl) ?_
      refine s_do rfl rfl rfl (d_move rfl rfl) ?_
      refine s_do rfl rfl rfl (d_move rfl rfl) ?_
      refine s_do rfl rfl rfl (d_nilCheck rfl rfl) ?_
      refine s_do rfl rfl rfl (d_field rfl (k := 2) (r := 2) (by kernel_rfl) rfl rfl) ?_
      refine s_do rfl rfl rfl (d_indexA (l := 4) rfl (z := 1) (j := 1) (r := 3) (by kernel_rfl) rfl rfl rfl (by omega) (by omega)) ?_
      refine s_put rfl rfl (n_store 0 H rfl rfl rfl rfl (vs := [.int .i64 x]) rfl (by simp [u8, u32, Value.oneCell']) (by kernel_rfl) (by simp) (out := [.slice (some ⟨bd, 0, none⟩) (D.n * 256) (D.n * 256), .map (some m), .int .i64 f0, .int .i64 x, .int .i64 D.f2, .int .i64 D.f3, .bool D.cut, .int .i64 D.left]) rfl) ?_
      rintro w H'
      have H : Sep z (blk pd [.slice (some ⟨bd, 0, none⟩) (D.n * 256) (D.n * 256), .map (some m), .int .i64 f0, .int .i64 x, .int .i64 D.f2, .int .i64 D.f3, .bool D.cut, .int .i64 D.left] 74 :: blk bd (bs.map u8) 5 :: mapB m (es.map Ent.ie) clk :: poolA hq :: seps (es.map Ent.row) :: R) w := H'
      clear H'
      refine s_end ?_
      refine k_seq ?_
      refine s_region ?_
      refine s_do rfl rfl rfl (d_assign rfl rfl) ?_
      refine s_end ?_
      refine k_ret ?_
      refine doneL rfl [.int .i64 0] ⟨rfl, trivial⟩ (v := .int .i64 0) rfl ?_
      have H' := Sep.toDisk (D := { D with f1 := x }) (pd := pd) (bd := bd) (m := m) (f0 := f0) (bs := bs) (es := es) (clk := clk) (hq := hq) (Γ := R) H (hD.f (by omega) hD.f2 hD.f3 hD.left) (hIn.f _ _ _ _ _)
      have H : Sep z (diskA pd ({ D with f1 := x }) :: R) w := H'
      clear H'
      exact ⟨[diskA pd ({ D with f1 := x })], .inr ⟨by omega, rfl, rfl⟩, H⟩

theorem fail2_c (pd : Nat) (D : Dsk) (x : Int) : Cn Tryz.prog 12 [.pointer (some ⟨pd, 0, none⟩), .int .i64 2, .int .i64 x] [diskA pd D] (fun v Γ => (¬ (1 ≤ x ∧ x ≤ 1099511627776) ∧ v = .int .i64 1 ∧ Γ = [diskA pd D]) ∨ ((1 ≤ x ∧ x ≤ 1099511627776) ∧ v = .int .i64 0 ∧ Γ = [diskA pd { D with f2 := x }])) := by
  intro z R w H'
  have H : Sep z (diskA pd D :: R) w := H'
  clear H'
  obtain ⟨bd, m, f0, bs, es, clk, hq, hD, hIn, H'⟩ := H.disk
  clear H
  have hn1 := hD.n1; have hn2 := hD.n2; have hf1 := hD.f1; have hf2 := hD.f2; have hf3 := hD.f3; have hlf := hD.left; have hbl := hIn.len
  have H : Sep z (blk pd [.slice (some ⟨bd, 0, none⟩) (D.n * 256) (D.n * 256), .map (some m), .int .i64 f0, .int .i64 D.f1, .int .i64 D.f2, .int .i64 D.f3, .bool D.cut, .int .i64 D.left] 74 :: blk bd (bs.map u8) 5 :: mapB m (es.map Ent.ie) clk :: poolA hq :: seps (es.map Ent.row) :: R) w := H'
  clear H'
  refine enter Tryz.func12 rfl 27 Tryz.ntmps12 rfl ?_
  refine k_seq ?_
  refine s_region ?_
  refine s_do rfl rfl rfl (d_assign rfl rfl) ?_
  refine s_end ?_
  refine k_seq ?_
  refine k_seq ?_
  refine s_region ?_
  refine s_do rfl rfl rfl (d_move rfl rfl) ?_
  refine s_do rfl rfl rfl (d_lss rfl rfl rfl) ?_
  refine k_updA 8 (u := .bool (decide ((2 : Int) < 1))) (v := .bool false) rfl (congrArg Value.bool (by decide)) ?_
  refine s_do rfl rfl rfl (d_move rfl rfl) ?_
  refine s_do rfl rfl rfl (d_move rfl rfl) ?_
  refine s_do rfl rfl rfl (d_gtr rfl rfl rfl) ?_
  refine k_updA 11 (u := .bool (decide ((3 : Int) < 2))) (v := .bool false) rfl (congrArg Value.bool (by decide)) ?_
  refine s_do rfl rfl rfl (d_pick_f rfl rfl rfl) ?_
  refine s_do rfl rfl rfl (d_move rfl rfl) ?_
  refine s_do rfl rfl rfl (d_move rfl rfl) ?_
  refine s_do rfl rfl rfl (d_lss rfl rfl rfl) ?_
  refine s_do rfl rfl rfl (d_pick_f rfl rfl rfl) ?_
  refine s_do rfl rfl rfl (d_move rfl rfl) ?_
  refine s_part 17 rfl (fun h1 => ?_) (fun h1 => ?_)
  · -- yes: (x : Int) < 1
    refine s_skip rfl rfl rfl ?_
    refine s_skip rfl rfl rfl ?_
    refine s_do rfl rfl rfl (d_pick_t rfl rfl rfl) ?_
    refine s_end ?_
    refine k_true rfl ?_
    refine k_seq ?_
    refine s_region ?_
    refine s_do rfl rfl rfl (d_assign rfl rfl) ?_
    refine s_end ?_
    refine k_ret ?_
    refine doneL rfl [.int .i64 1] ⟨rfl, trivial⟩ (v := .int .i64 1) rfl ?_
    have H' := Sep.toDisk (D := D) (pd := pd) (bd := bd) (m := m) (f0 := f0) (bs := bs) (es := es) (clk := clk) (hq := hq) (Γ := R) H hD hIn
    have H : Sep z (diskA pd D :: R) w := H'
    clear H'
    exact ⟨[diskA pd D], .inl ⟨by omega, rfl, rfl⟩, H⟩
  · -- no: (x : Int) < 1
    refine s_do rfl rfl rfl (d_move rfl rfl) ?_
    refine s_do rfl rfl rfl (d_gtr rfl rfl rfl) ?_
    refine s_do rfl rfl rfl (d_pick_f rfl rfl rfl) ?_
    refine s_end ?_
    refine k_dec rfl (fun h2 => ?_) (fun h2 => ?_)
    · -- yes: (1099511627776 : Int) < x
      refine k_seq ?_
      refine s_region ?_
      refine s_do rfl rfl rfl (d_assign rfl rfl) ?_
      refine s_end ?_
      refine k_ret ?_
      refine doneL rfl [.int .i64 1] ⟨rfl, trivial⟩ (v := .int .i64 1) rfl ?_
      have H' := Sep.toDisk (D := D) (pd := pd) (bd := bd) (m := m) (f0 := f0) (bs := bs) (es := es) (clk := clk) (hq := hq) (Γ := R) H hD hIn
      have H : Sep z (diskA pd D :: R) w := H'
      clear H'
      exact ⟨[diskA pd D], .inl ⟨by omega, rfl, rfl⟩, H⟩
    · -- no: (1099511627776 : Int) < x
      refine k_skip ?_
      refine k_seq ?_
      refine s_region ?_
      refine s_do rfl rfl rfl (d_move rfl rfl) ?_
      refine s_do rfl rfl rfl (d_move rfl rfl) ?_
      refine s_do rfl rfl rfl (d_move rfl rfl) ?_
      refine s_do rfl rfl rfl (d_nilCheck rfl rfl) ?_
      refine s_do rfl rfl rfl (d_field rfl (k := 2) (r := 2) (by kernel_rfl) rfl rfl) ?_
      refine s_do rfl rfl rfl (d_indexA (l := 4) rfl (z := 1) (j := 2) (r := 4) (by kernel_rfl) rfl rfl rfl (by omega) (by omega)) ?_
      refine s_put rfl rfl (n_store 0 H rfl rfl rfl rfl (vs := [.int .i64 x]) rfl (by simp [u8, u32, Value.oneCell']) (by kernel_rfl) (by simp) (out := [.slice (some ⟨bd, 0, none⟩) (D.n * 256) (D.n * 256), .map (some m), .int .i64 f0, .int .i64 D.f1, .int .i64 x, .int .i64 D.f3, .bool D.cut, .int .i64 D.left]) rfl) ?_
      rintro w H'
      have H : Sep z (blk pd [.slice (some ⟨bd, 0, none⟩) (D.n * 256) (D.n * 256), .map (some m), .int .i64 f0, .int .i64 D.f1, .int .i64 x, .int .i64 D.f3, .bool D.cut, .int .i64 D.left] 74 :: blk bd (bs.map u8) 5 :: mapB m (es.map Ent.ie) clk :: poolA hq :: seps (es.map Ent.row) :: R) w := H'
      clear H'
      refine s_end ?_
      refine k_seq ?_
      refine s_region ?_
      refine s_do rfl rfl rfl (d_assign rfl rfl) ?_
      refine s_end ?_
      refine k_ret ?_
      refine doneL rfl [.int .i64 0] ⟨rfl, trivial⟩ (v := .int .i64 0) rfl ?_
      have H' := Sep.toDisk (D := { D with f2 := x }) (pd := pd) (bd := bd) (m := m) (f0 := f0) (bs := bs) (es := es) (clk := clk) (hq := hq) (Γ := R) H (hD.f hD.f1 (by omega) hD.f3 hD.left) (hIn.f _ _ _ _ _)
      have H : Sep z (diskA pd ({ D with f2 := x }) :: R) w := H'
      clear H'
      exact ⟨[diskA pd ({ D with f2 := x })], .inr ⟨by omega, rfl, rfl⟩, H⟩

theorem fail3_c (pd : Nat) (D : Dsk) (x : Int) : Cn Tryz.prog 12 [.pointer (some ⟨pd, 0, none⟩), .int .i64 3, .int .i64 x] [diskA pd D] (fun v Γ => (¬ (1 ≤ x ∧ x ≤ 1099511627776) ∧ v = .int .i64 1 ∧ Γ = [diskA pd D]) ∨ ((1 ≤ x ∧ x ≤ 1099511627776) ∧ v = .int .i64 0 ∧ Γ = [diskA pd { D with f3 := x }])) := by
  intro z R w H'
  have H : Sep z (diskA pd D :: R) w := H'
  clear H'
  obtain ⟨bd, m, f0, bs, es, clk, hq, hD, hIn, H'⟩ := H.disk
  clear H
  have hn1 := hD.n1; have hn2 := hD.n2; have hf1 := hD.f1; have hf2 := hD.f2; have hf3 := hD.f3; have hlf := hD.left; have hbl := hIn.len
  have H : Sep z (blk pd [.slice (some ⟨bd, 0, none⟩) (D.n * 256) (D.n * 256), .map (some m), .int .i64 f0, .int .i64 D.f1, .int .i64 D.f2, .int .i64 D.f3, .bool D.cut, .int .i64 D.left] 74 :: blk bd (bs.map u8) 5 :: mapB m (es.map Ent.ie) clk :: poolA hq :: seps (es.map Ent.row) :: R) w := H'
  clear H'
  refine enter Tryz.func12 rfl 27 Tryz.ntmps12 rfl ?_
  refine k_seq ?_
  refine s_region ?_
  refine s_do rfl rfl rfl (d_assign rfl rfl) ?_
  refine s_end ?_
  refine k_seq ?_
  refine k_seq ?_
  refine s_region ?_
  refine s_do rfl rfl rfl (d_move rfl rfl) ?_
  refine s_do rfl rfl rfl (d_lss rfl rfl rfl) ?_
  refine k_updA 8 (u := .bool (decide ((3 : Int) < 1))) (v := .bool false) rfl (congrArg Value.bool (by decide)) ?_
  refine s_do rfl rfl rfl (d_move rfl rfl) ?_
  refine s_do rfl rfl rfl (d_move rfl rfl) ?_
  refine s_do rfl rfl rfl (d_gtr rfl rfl rfl) ?_
  refine k_updA 11 (u := .bool (decide ((3 : Int) < 3))) (v := .bool false) rfl (congrArg Value.bool (by decide)) ?_
  refine s_do rfl rfl rfl (d_pick_f rfl rfl rfl) ?_
  refine s_do rfl rfl rfl (d_move rfl rfl) ?_
  refine s_do rfl rfl rfl (d_move rfl rfl) ?_
  refine s_do rfl rfl rfl (d_lss rfl rfl rfl) ?_
  refine s_do rfl rfl rfl (d_pick_f rfl rfl rfl) ?_
  refine s_do rfl rfl rfl (d_move rfl rfl) ?_
  refine s_part 17 rfl (fun h1 => ?_) (fun h1 => ?_)
  · -- yes: (x : Int) < 1
    refine s_skip rfl rfl rfl ?_
    refine s_skip rfl rfl rfl ?_
    refine s_do rfl rfl rfl (d_pick_t rfl rfl rfl) ?_
    refine s_end ?_
    refine k_true rfl ?_
    refine k_seq ?_
    refine s_region ?_
    refine s_do rfl rfl rfl (d_assign rfl rfl) ?_
    refine s_end ?_
    refine k_ret ?_
    refine doneL rfl [.int .i64 1] ⟨rfl, trivial⟩ (v := .int .i64 1) rfl ?_
    have H' := Sep.toDisk (D := D) (pd := pd) (bd := bd) (m := m) (f0 := f0) (bs := bs) (es := es) (clk := clk) (hq := hq) (Γ := R) H hD hIn
    have H : Sep z (diskA pd D :: R) w := H'
    clear H'
    exact ⟨[diskA pd D], .inl ⟨by omega, rfl, rfl⟩, H⟩
  · -- no: (x : Int) < 1
    refine s_do rfl rfl rfl (d_move rfl rfl) ?_
    refine s_do rfl rfl rfl (d_gtr rfl rfl rfl) ?_
    refine s_do rfl rfl rfl (d_pick_f rfl rfl rfl) ?_
    refine s_end ?_
    refine k_dec rfl (fun h2 => ?_) (fun h2 => ?_)
    · -- yes: (1099511627776 : Int) < x
      refine k_seq ?_
      refine s_region ?_
      refine s_do rfl rfl rfl (d_assign rfl rfl) ?_
      refine s_end ?_
      refine k_ret ?_
      refine doneL rfl [.int .i64 1] ⟨rfl, trivial⟩ (v := .int .i64 1) rfl ?_
      have H' := Sep.toDisk (D := D) (pd := pd) (bd := bd) (m := m) (f0 := f0) (bs := bs) (es := es) (clk := clk) (hq := hq) (Γ := R) H hD hIn
      have H : Sep z (diskA pd D :: R) w := H'
      clear H'
      exact ⟨[diskA pd D], .inl ⟨by omega, rfl, rfl⟩, H⟩
    · -- no: (1099511627776 : Int) < x
      refine k_skip ?_
      refine k_seq ?_
      refine s_region ?_
      refine s_do rfl rfl rfl (d_move rfl rfl) ?_
      refine s_do rfl rfl rfl (d_move rfl rfl) ?_
      refine s_do rfl rfl rfl (d_move rfl rfl) ?_
      refine s_do rfl rfl rfl (d_nilCheck rfl rfl) ?_
      refine s_do rfl rfl rfl (d_field rfl (k := 2) (r := 2) (by kernel_rfl) rfl rfl) ?_
      refine s_do rfl rfl rfl (d_indexA (l := 4) rfl (z := 1) (j := 3) (r := 5) (by kernel_rfl) rfl rfl rfl (by omega) (by omega)) ?_
      refine s_put rfl rfl (n_store 0 H rfl rfl rfl rfl (vs := [.int .i64 x]) rfl (by simp [u8, u32, Value.oneCell']) (by kernel_rfl) (by simp) (out := [.slice (some ⟨bd, 0, none⟩) (D.n * 256) (D.n * 256), .map (some m), .int .i64 f0, .int .i64 D.f1, .int .i64 D.f2, .int .i64 x, .bool D.cut, .int .i64 D.left]) rfl) ?_
      rintro w H'
      have H : Sep z (blk pd [.slice (some ⟨bd, 0, none⟩) (D.n * 256) (D.n * 256), .map (some m), .int .i64 f0, .int .i64 D.f1, .int .i64 D.f2, .int .i64 x, .bool D.cut, .int .i64 D.left] 74 :: blk bd (bs.map u8) 5 :: mapB m (es.map Ent.ie) clk :: poolA hq :: seps (es.map Ent.row) :: R) w := H'
      clear H'
      refine s_end ?_
      refine k_seq ?_
      refine s_region ?_
      refine s_do rfl rfl rfl (d_assign rfl rfl) ?_
      refine s_end ?_
      refine k_ret ?_
      refine doneL rfl [.int .i64 0] ⟨rfl, trivial⟩ (v := .int .i64 0) rfl ?_
      have H' := Sep.toDisk (D := { D with f3 := x }) (pd := pd) (bd := bd) (m := m) (f0 := f0) (bs := bs) (es := es) (clk := clk) (hq := hq) (Γ := R) H (hD.f hD.f1 hD.f2 (by omega) hD.left) (hIn.f _ _ _ _ _)
      have H : Sep z (diskA pd ({ D with f3 := x }) :: R) w := H'
      clear H'
      exact ⟨[diskA pd ({ D with f3 := x })], .inr ⟨by omega, rfl, rfl⟩, H⟩
end Go.Proofs.YtanejicgmgpjcaaGreatDoor
