/-
  Walks: package bytes; reading a disk. No condition.
-/
import Derived.Test.YtanejicgmgpjcaaGreatDoorLogA
import Derived.Test.YtanejicgmgpjcaaGreatDoorLogM
set_option maxRecDepth 100000
namespace Go.Proofs.YtanejicgmgpjcaaGreatDoor
open Go.RowKit
theorem clone_c (b off n c : Nat) (bs : List UInt8) (A : Asn) (hA : ∀ h, A h → rdH 1 (.slice (some ⟨b, off, none⟩) n c) n (bs.map u8) h) (hn : 0 < n ∧ n ≤ 1073741824) : Cn Tryz.prog 39 [.slice (some ⟨b, off, none⟩) n c] [A] (fun v Γ => (∃ g cap rest, v = .slice (some ⟨g, 0, none⟩) n cap ∧ (n ≤ cap ∧ cap ≤ 9223372036854775807 ∧ rest.length = cap - n) ∧ Γ = [blk g (bs.map u8 ++ rest) 5, A])) := by
  intro z R w H'
  have H : Sep z (A :: R) w := H'
  clear H'
  refine enter Tryz.func39 rfl 8 Tryz.ntmps39 rfl ?_
  refine k_seq ?_
  refine s_region ?_
  refine s_do rfl rfl rfl (d_assign rfl rfl) ?_
  refine s_end ?_
  refine k_seq ?_
  refine k_seq ?_
  refine s_region ?_
  refine s_do rfl rfl rfl (d_move rfl rfl) ?_
  refine s_do rfl rfl rfl (d_eql_sn rfl (by kernel_rfl) rfl rfl) ?_
  refine s_end ?_
  refine k_false rfl ?_
  refine k_skip ?_
  refine k_seq ?_
  refine s_region ?_
  refine s_go rfl rfl rfl (n_buildSlice0 H rfl (by kernel_rfl) (Elt.mk (P := Tryz.prog) (e := 5) (z := u8 0) (sz := 1) (by_ := 1) (by kernel_rfl) rfl (by omega) (by omega))) ?_
  rintro _ w ⟨b1, rfl, H'⟩
  have H : Sep z (blk b1 [] 5 :: A :: R) w := H'
  clear H'
  refine s_do rfl rfl rfl (d_move rfl rfl) ?_
  have H' := H.mono 0 (B := grow 5 1 (.slice (some ⟨b1, 0, none⟩) 0 0) 0 []) rfl (fun h q => q.grow (by omega) (by omega) (by simp) rfl)
  have H : Sep z (grow 5 1 (.slice (some ⟨b1, 0, none⟩) 0 0) 0 [] :: A :: R) w := H'
  clear H'
  refine s_go rfl rfl rfl (n_append 0 H rfl rfl (by kernel_rfl) (Elt.mk (P := Tryz.prog) (e := 5) (z := u8 0) (sz := 1) (by_ := 1) (by kernel_rfl) rfl (by omega) (by omega)) rfl rfl (H.rd 1 rfl hA) (by simp [u8, Value.oneCell']) (by omega)) ?_
  rintro v2 w H'
  have ev2 : ([] ++ bs.map u8 : List Value) = bs.map u8 := by simp
  rw [ev2] at H'
  rw [show (0 + n : Nat) = n from by omega] at H'
  have H : Sep z (grow 5 1 v2 n (bs.map u8) :: A :: R) w := H'
  clear H'
  have sv2 := H.says 0 rfl (fun h q => q.slc)
  refine s_do rfl rfl rfl (d_assign rfl rfl) ?_
  refine s_end ?_
  refine k_ret ?_
  refine doneL rfl [v2] ⟨rfl, trivial⟩ (v := v2) rfl ?_
  obtain ⟨g, cap, rest, hv, c1, c2, c3, H'⟩ := H.ungrow 0 rfl (by omega)
  exact ⟨[blk g (bs.map u8 ++ rest) 5, A], ⟨g, cap, rest, hv, ⟨c1, c2, by omega⟩, rfl⟩, H'⟩

theorem read_c (pd : Nat) (D : Dsk) (x : Int) : Cn Tryz.prog 55 [.pointer (some ⟨pd, 0, none⟩), .int .i64 x, .int .i64 1] [diskA pd D] (fun v Γ => (¬ (0 ≤ x ∧ x < (D.n : Int)) ∧ v = .tuple #[.slice none 0 0, .int .i64 2] ∧ Γ = [diskA pd D]) ∨ ((0 ≤ x ∧ x < (D.n : Int)) ∧ D.f1 = 1 ∧ v = .tuple #[.slice none 0 0, .int .i64 10] ∧ Γ = [diskA pd { D with f1 := tick D.f1 }]) ∨ ((0 ≤ x ∧ x < (D.n : Int)) ∧ ¬ D.f1 = 1 ∧ ∃ g cap rest, v = .tuple #[.slice (some ⟨g, 0, none⟩) 256 cap, .int .i64 0] ∧ (256 ≤ cap ∧ cap ≤ 9223372036854775807 ∧ rest.length = cap - 256) ∧ Γ = [blk g ((D.cont x.toNat).map u8 ++ rest) 5, diskA pd { D with f1 := tick D.f1 }])) := by
  intro z R w H'
  have H : Sep z (diskA pd D :: R) w := H'
  clear H'
  obtain ⟨bd, m, f0, bs, es, clk, hq, hD, hIn, H'⟩ := H.disk
  clear H
  have hn1 := hD.n1; have hn2 := hD.n2; have hf1 := hD.f1; have hf2 := hD.f2; have hf3 := hD.f3; have hlf := hD.left; have hbl := hIn.len
  have H : Sep z (blk pd [.slice (some ⟨bd, 0, none⟩) (D.n * 256) (D.n * 256), .map (some m), .int .i64 f0, .int .i64 D.f1, .int .i64 D.f2, .int .i64 D.f3, .bool D.cut, .int .i64 D.left] 74 :: blk bd (bs.map u8) 5 :: mapB m (es.map Ent.ie) clk :: poolA hq :: seps (es.map Ent.row) :: R) w := H'
  clear H'
  refine enter Tryz.func55 rfl 58 Tryz.ntmps55 rfl ?_
  refine k_seq ?_
  refine s_region ?_
  refine s_do rfl rfl rfl (d_assign rfl rfl) ?_
  refine s_do rfl rfl rfl (d_assign rfl rfl) ?_
  refine s_end ?_
  refine k_seq ?_
  refine k_seq ?_
  refine s_region ?_
  refine s_do rfl rfl rfl (d_move rfl rfl) ?_
  refine s_do rfl rfl rfl (d_move rfl rfl) ?_
  refine s_do rfl rfl rfl (d_move rfl rfl) ?_
  refine s_callC rfl rfl rfl rfl rfl (fun w => Tryz.call37 _ w) (there_c _ _ _ _ _ _ _ _ _ _ _ _ (by omega)) H 1 [0] rfl rfl ?_
  rintro _ w _ ⟨rfl, rfl⟩ H'
  have H : Sep z (blk pd [.slice (some ⟨bd, 0, none⟩) (D.n * 256) (D.n * 256), .map (some m), .int .i64 f0, .int .i64 D.f1, .int .i64 D.f2, .int .i64 D.f3, .bool D.cut, .int .i64 D.left] 74 :: blk bd (bs.map u8) 5 :: mapB m (es.map Ent.ie) clk :: poolA hq :: seps (es.map Ent.row) :: R) w := H'
  clear H'
  refine s_do rfl rfl rfl (d_not_dec rfl rfl) ?_
  refine s_end ?_
  refine k_dec rfl (fun h1 => ?_) (fun h1 => ?_)
  · -- yes: ¬ (0 ≤ x ∧ (0 : Int) < 1 ∧ x < ((D.n * 256 : Nat) : Int) / 256 ∧ 1 ≤ ((D.n * 256 : Nat) : Int) / 256 - x)
    refine k_seq ?_
    refine s_region ?_
    refine s_do rfl rfl rfl (d_assign rfl rfl) ?_
    refine s_do rfl rfl rfl (d_assign rfl rfl) ?_
    refine s_end ?_
    refine k_ret ?_
    refine doneL rfl [.slice none 0 0, .int .i64 2] ⟨rfl, ⟨rfl, trivial⟩⟩ (v := .tuple #[.slice none 0 0, .int .i64 2]) rfl ?_
    have H' := Sep.toDisk (D := D) (pd := pd) (bd := bd) (m := m) (f0 := f0) (bs := bs) (es := es) (clk := clk) (hq := hq) (Γ := R) H hD hIn
    have H : Sep z (diskA pd D :: R) w := H'
    clear H'
    exact ⟨[diskA pd D], .inl ⟨by omega, rfl, rfl⟩, H⟩
  · -- no: ¬ (0 ≤ x ∧ (0 : Int) < 1 ∧ x < ((D.n * 256 : Nat) : Int) / 256 ∧ 1 ≤ ((D.n * 256 : Nat) : Int) / 256 - x)
    obtain ⟨k, rfl⟩ : ∃ k : Nat, x = (k : Int) := ⟨x.toNat, by omega⟩
    have hk : k < D.n := by omega
    refine k_skip ?_
    refine k_seq ?_
    refine k_seq ?_
    refine s_region ?_
    refine s_do rfl rfl rfl (d_move rfl rfl) ?_
    refine s_callC rfl rfl rfl rfl rfl (fun w => Tryz.call28 _ w) (fails1_c _ _ _ _ _ _ _ _ _ _ (by omega)) H 1 [0] rfl rfl ?_
    rintro _ w _ ⟨rfl, rfl⟩ H'
    have H : Sep z (blk pd [.slice (some ⟨bd, 0, none⟩) (D.n * 256) (D.n * 256), .map (some m), .int .i64 f0, .int .i64 (if D.f1 = 0 then 0 else D.f1 - 1), .int .i64 D.f2, .int .i64 D.f3, .bool D.cut, .int .i64 D.left] 74 :: blk bd (bs.map u8) 5 :: mapB m (es.map Ent.ie) clk :: poolA hq :: seps (es.map Ent.row) :: R) w := H'
    clear H'
    refine s_end ?_
    refine k_dec rfl (fun h2 => ?_) (fun h2 => ?_)
    · -- yes: D.f1 = 1
      refine k_seq ?_
      refine s_region ?_
      refine s_do rfl rfl rfl (d_assign rfl rfl) ?_
      refine s_do rfl rfl rfl (d_assign rfl rfl) ?_
      refine s_end ?_
      refine k_ret ?_
      refine doneL rfl [.slice none 0 0, .int .i64 10] ⟨rfl, ⟨rfl, trivial⟩⟩ (v := .tuple #[.slice none 0 0, .int .i64 10]) rfl ?_
      have H' := Sep.toDisk (D := { D with f1 := tick D.f1 }) (pd := pd) (bd := bd) (m := m) (f0 := f0) (bs := bs) (es := es) (clk := clk) (hq := hq) (Γ := R) H (hD.f (tick_in hD.f1) hD.f2 hD.f3 hD.left) (hIn.f _ _ _ _ _)
      have H : Sep z (diskA pd ({ D with f1 := tick D.f1 }) :: R) w := H'
      clear H'
      exact ⟨[diskA pd { D with f1 := tick D.f1 }], .inr (.inl ⟨by omega, ‹_›, rfl, rfl⟩), H⟩
    · -- no: D.f1 = 1
      refine k_skip ?_
      refine k_seq ?_
      refine s_region ?_
      refine s_do rfl rfl rfl (d_move rfl rfl) ?_
      refine s_do rfl rfl rfl (d_nilCheck rfl rfl) ?_
      refine s_do rfl rfl rfl (d_field rfl (k := 0) (r := 0) (by kernel_rfl) rfl rfl) ?_
      refine s_do rfl rfl rfl (d_load rfl rfl (by kernel_rfl) (here (H.cel 0 rfl 0 rfl))) ?_
      refine s_do rfl rfl rfl (d_move rfl rfl) ?_
      refine s_do rfl rfl rfl (d_mul64 rfl rfl rfl (r := (k : Int) * 256) (by omega) (by omega)) ?_
      refine s_do rfl rfl rfl (d_move rfl rfl) ?_
      refine s_do rfl rfl rfl (d_move rfl rfl) ?_
      refine s_do rfl rfl rfl (d_add64 rfl rfl rfl (r := (k : Int) + 1) (by omega) (by omega)) ?_
      refine s_do rfl rfl rfl (d_mul64 rfl rfl rfl (r := ((k : Int) + 1) * 256) (by omega) (by omega)) ?_
      refine s_do rfl rfl rfl (d_sliceC rfl (z := 1) (p := (k * 256)) (q := ((k + 1) * 256)) (o' := k * 256) (l' := 256) (c' := D.n * 256 - k * 256) (by kernel_rfl) rfl (.inr ⟨_, _, _, rfl, rfl, (by omega)⟩) (.inr ⟨_, _, _, rfl, rfl, (by omega)⟩) (by omega) (by omega) (by omega) (by omega) (by omega) (by omega)) ?_
      refine s_callC rfl rfl rfl rfl rfl (fun w => Tryz.call39 _ w) (clone_c _ _ 256 _ (D.dur k) _ (fun h q => q.rd (by omega) (by omega) (by simp; omega) (by rw [← List.map_drop, ← List.map_take, Nat.mul_one, hIn.own k hk])) (by omega)) H 2 [1, 0] rfl rfl ?_
      rintro _ w _ ⟨g, cap, rest, rfl, ⟨cg, cc, cl⟩, rfl⟩ H'
      have H : Sep z (blk g ((D.dur k).map u8 ++ rest) 5 :: blk bd (bs.map u8) 5 :: blk pd [.slice (some ⟨bd, 0, none⟩) (D.n * 256) (D.n * 256), .map (some m), .int .i64 f0, .int .i64 (if D.f1 = 0 then 0 else D.f1 - 1), .int .i64 D.f2, .int .i64 D.f3, .bool D.cut, .int .i64 D.left] 74 :: mapB m (es.map Ent.ie) clk :: poolA hq :: seps (es.map Ent.row) :: R) w := H'
      clear H'
      refine s_do rfl rfl rfl (d_assign rfl rfl) ?_
      refine s_end ?_
      refine k_seq ?_
      refine k_seq ?_
      refine s_region ?_
      refine s_do rfl rfl rfl (d_move rfl rfl) ?_
      refine s_do rfl rfl rfl (d_move rfl rfl) ?_
      refine s_end ?_
      refine k_block ?_
      refine c_loop (σ := Nat) (fun j => [(31, .int .i64 (j : Int)), (0, .pointer (some ⟨pd, 0, none⟩)), (1, .int .i64 (k : Int)), (6, .slice none 0 0), (7, .int .i64 0), (8, .slice (some ⟨g, 0, none⟩) 256 cap), (30, .int .i64 1)])
        (fun j w => Sep z (blk g ((rdSt D k j).map u8 ++ rest) 5 :: blk bd (bs.map u8) 5 :: blk pd [.slice (some ⟨bd, 0, none⟩) (D.n * 256) (D.n * 256), .map (some m), .int .i64 f0, .int .i64 (if D.f1 = 0 then 0 else D.f1 - 1), .int .i64 D.f2, .int .i64 D.f3, .bool D.cut, .int .i64 D.left] 74 :: mapB m (es.map Ent.ie) clk :: poolA hq :: seps (es.map Ent.row) :: R) w ∧ (j ≤ 1)) (fun j => 1 - j) 0
        (fun _ hF => (hF.cons (hF.cons (hF.cons (hF.cons (hF.cons (hF.cons (hF.cons hF.nil 30 _ _ rfl rfl) 8 _ _ rfl rfl) 7 _ _ rfl rfl) 6 _ _ rfl rfl) 1 _ _ rfl rfl) 0 _ _ rfl rfl) 31 _ _ rfl (by go_num))) ⟨H, by omega⟩ ?_
      clear H; rintro j w ⟨H', hI⟩
      have H : Sep z (blk g ((rdSt D k j).map u8 ++ rest) 5 :: blk bd (bs.map u8) 5 :: blk pd [.slice (some ⟨bd, 0, none⟩) (D.n * 256) (D.n * 256), .map (some m), .int .i64 f0, .int .i64 (if D.f1 = 0 then 0 else D.f1 - 1), .int .i64 D.f2, .int .i64 D.f3, .bool D.cut, .int .i64 D.left] 74 :: mapB m (es.map Ent.ie) clk :: poolA hq :: seps (es.map Ent.row) :: R) w := H'
      clear H'
      refine k_seq ?_
      refine s_region ?_
      refine s_do rfl rfl rfl (d_lss rfl rfl rfl) ?_
      refine s_end ?_
      refine k_seq ?_
      refine k_dec rfl (fun h3 => ?_) (fun h3 => ?_)
      · -- yes: (j : Int) < 1
        obtain rfl : j = 0 := by omega
        refine k_skip ?_
        refine k_seq ?_
        refine k_block ?_
        refine k_seq ?_
        refine s_region ?_
        refine s_do rfl rfl rfl (d_move rfl rfl) ?_
        refine s_do rfl rfl rfl (d_assign rfl rfl) ?_
        refine s_end ?_
        refine k_seq ?_
        refine s_region ?_
        obtain ⟨v0, pvs, hgv, hpl, hrow, hpool⟩ := row_of hIn hk
        have sv := H.says 5 rfl (fun h q => (hrow h q).slc)
        obtain ⟨ao, cc0, rfl⟩ := sv
        have hpm := H.says 5 rfl (fun h q => (hrow h q).small)
        refine s_do rfl rfl rfl (d_move rfl rfl) ?_
        refine s_do rfl rfl rfl (d_nilCheck rfl rfl) ?_
        refine s_do rfl rfl rfl (d_field rfl (k := 1) (r := 1) (by kernel_rfl) rfl rfl) ?_
        refine s_do rfl rfl rfl (d_load rfl rfl (by kernel_rfl) (here (H.cel 2 rfl 1 rfl))) ?_
        refine s_do rfl rfl rfl (d_move rfl rfl) ?_
        refine s_do rfl rfl rfl (d_move rfl rfl) ?_
        refine s_do rfl rfl rfl (d_add64 rfl rfl rfl (r := (k : Int)) (by omega) (by omega)) ?_
        refine s_do rfl rfl rfl (d_lookup (e := 90) (zv := .slice none 0 0) rfl (by kernel_rfl) (by kernel_rfl) rfl rfl (here (H.bk 3 rfl))) ?_
        refine k_updA 41 (u := (getM (es.map Ent.ie) (k : Int)).getD (.slice none 0 0)) (v := .slice ao pvs.length cc0) rfl hgv ?_
        refine s_do rfl rfl rfl (d_assign rfl rfl) ?_
        refine s_end ?_
        refine k_seq ?_
        refine s_region ?_
        refine s_do rfl rfl rfl (d_move rfl rfl) ?_
        refine s_do rfl rfl rfl (d_len rfl (z := 1) (by kernel_rfl) rfl) ?_
        refine s_do rfl rfl rfl (d_gtr rfl rfl rfl) ?_
        refine s_end ?_
        refine k_dec rfl (fun h4 => ?_) (fun h4 => ?_)
        · -- yes: (0 : Int) < (pvs.length : Int)
          obtain ⟨pv, hpv⟩ : ∃ pv, pvs[pvs.length - 1]? = some pv := ⟨_, List.getElem?_eq_getElem (by omega)⟩
          obtain ⟨p, hp⟩ : ∃ p, (D.ver k)[pvs.length - 1]? = some p := ⟨_, List.getElem?_eq_getElem (by omega)⟩
          have hcp := cont_last hpl hp
          have hplen : p.length = 256 := by rw [← hcp]; exact Dsk.cont_len hD hk
          refine t_region 10 (by kernel_rfl) (by kernel_rfl) (fun w' x' _ => ?_)
          have H' := H.ext0 x'; clear x' H; revert H'; generalize w' = w; intro H'
          have H : Sep z (blk g ((rdSt D k 0).map u8 ++ rest) 5 :: blk bd (bs.map u8) 5 :: blk pd [.slice (some ⟨bd, 0, none⟩) (D.n * 256) (D.n * 256), .map (some m), .int .i64 f0, .int .i64 (if D.f1 = 0 then 0 else D.f1 - 1), .int .i64 D.f2, .int .i64 D.f3, .bool D.cut, .int .i64 D.left] 74 :: mapB m (es.map Ent.ie) clk :: poolA hq :: seps (es.map Ent.row) :: R) w := H'
          clear H'
          refine t_do rfl rfl rfl (d_move rfl rfl) ?_
          refine t_do rfl rfl rfl (d_move rfl rfl) ?_
          refine t_do rfl rfl rfl (d_mul64 rfl rfl rfl (r := 0) (by omega) (by omega)) ?_
          refine t_do rfl rfl rfl (d_sliceC rfl (z := 1) (p := 0) (q := 256) (o' := 0) (l' := 256) (c' := cap) (by kernel_rfl) rfl (.inr ⟨_, _, _, rfl, rfl, rfl⟩) (.inl ⟨rfl, rfl⟩) (by omega) (by omega) (by omega) (by omega) (by omega) (by omega)) ?_
          refine t_do rfl rfl rfl (d_move rfl rfl) ?_
          refine t_do rfl rfl rfl (d_move rfl rfl) ?_
          refine t_do rfl rfl rfl (d_len rfl (z := 1) (by kernel_rfl) rfl) ?_
          refine t_do rfl rfl rfl (d_sub64 rfl rfl rfl (r := (pvs.length : Int) - 1) (by omega) (by omega)) ?_
          have hat := (H.rd 5 rfl hrow).at hpv
          refine t_do rfl rfl rfl (d_indexE rfl (z := 1) (j := (pvs.length - 1)) (r := (pvs.length - 1)) (by kernel_rfl) rfl rfl (by omega) (by omega) hat (by omega)) ?_
          refine t_do rfl rfl rfl (d_loadE rfl rfl (by kernel_rfl) (here hat)) ?_
          refine t_end ?_
          refine s_go rfl rfl rfl (n_copy 0 H rfl rfl (by kernel_rfl) rfl rfl (m := 256) (news := (p.map u8)) (.inl (H.rd 4 rfl (hpool _ _ _ hpv hp))) (by simp [u8, Value.oneCell']) (by simp [rdSt, hD.dur k hk] <;> omega) (k := 256) (by omega) (out := ((rdSt D k (0 + 1)).map u8 ++ rest)) (by rw [show rdSt D k (0 + 1) = p from hcp]; simp [rdSt, List.take_of_length_le, hplen, hD.dur k hk, List.drop_append])) ?_
          rintro _ w ⟨rfl, H'⟩
          have H : Sep z (blk g ((rdSt D k (0 + 1)).map u8 ++ rest) 5 :: blk bd (bs.map u8) 5 :: blk pd [.slice (some ⟨bd, 0, none⟩) (D.n * 256) (D.n * 256), .map (some m), .int .i64 f0, .int .i64 (if D.f1 = 0 then 0 else D.f1 - 1), .int .i64 D.f2, .int .i64 D.f3, .bool D.cut, .int .i64 D.left] 74 :: mapB m (es.map Ent.ie) clk :: poolA hq :: seps (es.map Ent.row) :: R) w := H'
          clear H'
          refine s_end ?_
          refine s_region ?_
          refine s_do rfl rfl rfl (d_add64 rfl rfl rfl (r := (0 : Int) + 1) (by omega) (by omega)) ?_
          refine s_do rfl rfl rfl (d_move rfl rfl) ?_
          refine s_end ?_
          intro _ hF
          refine ⟨(0 + 1), (hF.cons (hF.cons (hF.cons (hF.cons (hF.cons (hF.cons (hF.cons hF.nil 30 _ _ rfl rfl) 8 _ _ rfl rfl) 7 _ _ rfl rfl) 6 _ _ rfl rfl) 1 _ _ rfl rfl) 0 _ _ rfl rfl) 31 _ _ rfl (by go_num)), ⟨H, ?_⟩, ?_⟩
          · omega
          · omega
        · -- no: (0 : Int) < (pvs.length : Int)
          refine k_skip ?_
          refine s_region ?_
          refine s_do rfl rfl rfl (d_add64 rfl rfl rfl (r := (0 : Int) + 1) (by omega) (by omega)) ?_
          refine s_do rfl rfl rfl (d_move rfl rfl) ?_
          refine s_end ?_
          intro _ hF
          refine ⟨(0 + 1), (hF.cons (hF.cons (hF.cons (hF.cons (hF.cons (hF.cons (hF.cons hF.nil 30 _ _ rfl rfl) 8 _ _ rfl rfl) 7 _ _ rfl rfl) 6 _ _ rfl rfl) 1 _ _ rfl rfl) 0 _ _ rfl rfl) 31 _ _ rfl (by go_num)), ⟨(by rw [show rdSt D k (0 + 1) = rdSt D k 0 from cont_nil (List.eq_nil_of_length_eq_zero (by omega))]; exact H), ?_⟩, ?_⟩
          · omega
          · omega
      · -- no: (j : Int) < 1
        refine k_exit ?_
        refine k_here ?_
        refine k_seq ?_
        refine s_region ?_
        refine s_do rfl rfl rfl (d_move rfl rfl) ?_
        refine s_do rfl rfl rfl (d_assign rfl rfl) ?_
        refine s_do rfl rfl rfl (d_assign rfl rfl) ?_
        refine s_end ?_
        refine k_ret ?_
        refine doneL rfl [.slice (some ⟨g, 0, none⟩) 256 cap, .int .i64 0] ⟨rfl, ⟨rfl, trivial⟩⟩ (v := .tuple #[.slice (some ⟨g, 0, none⟩) 256 cap, .int .i64 0]) rfl ?_
        obtain rfl : j = 1 := by omega
        have H' := H.pick 6 [2, 1, 3, 4, 5, 0] rfl
        have H : Sep z (blk pd [.slice (some ⟨bd, 0, none⟩) (D.n * 256) (D.n * 256), .map (some m), .int .i64 f0, .int .i64 (if D.f1 = 0 then 0 else D.f1 - 1), .int .i64 D.f2, .int .i64 D.f3, .bool D.cut, .int .i64 D.left] 74 :: blk bd (bs.map u8) 5 :: mapB m (es.map Ent.ie) clk :: poolA hq :: seps (es.map Ent.row) :: blk g ((rdSt D k 1).map u8 ++ rest) 5 :: R) w := H'
        clear H'
        have H' := Sep.toDisk (D := { D with f1 := tick D.f1 }) (pd := pd) (bd := bd) (m := m) (f0 := f0) (bs := bs) (es := es) (clk := clk) (hq := hq) (Γ := blk g ((rdSt D k 1).map u8 ++ rest) 5 :: R) H (hD.f (tick_in hD.f1) hD.f2 hD.f3 hD.left) (hIn.f _ _ _ _ _)
        have H : Sep z (diskA pd ({ D with f1 := tick D.f1 }) :: blk g ((rdSt D k 1).map u8 ++ rest) 5 :: R) w := H'
        clear H'
        exact ⟨[blk g ((D.cont k).map u8 ++ rest) 5, diskA pd { D with f1 := tick D.f1 }], .inr (.inr ⟨by omega, ‹_›, g, cap, rest, rfl, ⟨cg, cc, cl⟩, rfl⟩), H.perm 2 [1, 0] rfl rfl⟩
end Go.Proofs.YtanejicgmgpjcaaGreatDoor
