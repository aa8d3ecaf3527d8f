/-
  Walks: a new disk, reading a log's sectors. No condition.
-/
import Derived.Test.YtanejicgmgpjcaaGreatDoorLogL
import Derived.Test.YtanejicgmgpjcaaGreatDoorLogQ
import Derived.Test.YtanejicgmgpjcaaGreatDoorLogB
set_option maxRecDepth 100000
namespace Go.Proofs.YtanejicgmgpjcaaGreatDoor
open Go.RowKit
theorem dnew_c (k : Nat) : Cn Tryz.prog 6 [.int .i64 (k : Int)] [] (fun v Γ => (¬ (1 ≤ k ∧ k ≤ 4096) ∧ v = .tuple #[.pointer none, .int .i64 1] ∧ Γ = []) ∨ ((1 ≤ k ∧ k ≤ 4096) ∧ ∃ pd, v = .tuple #[.pointer (some ⟨pd, 0, none⟩), .int .i64 0] ∧ Γ = [diskA pd (newD k)])) := by
  intro z R w H'
  have H : Sep z (R) w := H'
  clear H'
  refine enter Tryz.func6 rfl 16 Tryz.ntmps6 rfl ?_
  refine k_seq ?_
  refine s_region ?_
  refine s_do rfl rfl rfl (d_assign rfl rfl) ?_
  refine s_do rfl rfl rfl (d_assign rfl rfl) ?_
  refine s_end ?_
  refine k_seq ?_
  refine k_seq ?_
  refine s_region ?_
  refine s_do rfl rfl rfl (d_move rfl rfl) ?_
  refine s_do rfl rfl rfl (d_lss rfl rfl rfl) ?_
  refine s_do rfl rfl rfl (d_move rfl rfl) ?_
  refine s_part 6 rfl (fun h1 => ?_) (fun h1 => ?_)
  · -- yes: (k : Int) < 1
    refine s_skip rfl rfl rfl ?_
    refine s_skip rfl rfl rfl ?_
    refine s_do rfl rfl rfl (d_pick_t rfl rfl rfl) ?_
    refine s_end ?_
    refine k_true rfl ?_
    refine k_seq ?_
    refine s_region ?_
    refine s_do rfl rfl rfl (d_assign rfl rfl) ?_
    refine s_do rfl rfl rfl (d_assign rfl rfl) ?_
    refine s_end ?_
    refine k_ret ?_
    refine doneL rfl [.pointer none, .int .i64 1] ⟨rfl, ⟨rfl, trivial⟩⟩ (v := .tuple #[.pointer none, .int .i64 1]) rfl ?_
    exact ⟨[], .inl ⟨by omega, rfl, rfl⟩, H⟩
  · -- no: (k : Int) < 1
    refine s_do rfl rfl rfl (d_move rfl rfl) ?_
    refine s_do rfl rfl rfl (d_gtr rfl rfl rfl) ?_
    refine s_do rfl rfl rfl (d_pick_f rfl rfl rfl) ?_
    refine s_end ?_
    refine k_dec rfl (fun h2 => ?_) (fun h2 => ?_)
    · -- yes: (4096 : Int) < (k : Int)
      refine k_seq ?_
      refine s_region ?_
      refine s_do rfl rfl rfl (d_assign rfl rfl) ?_
      refine s_do rfl rfl rfl (d_assign rfl rfl) ?_
      refine s_end ?_
      refine k_ret ?_
      refine doneL rfl [.pointer none, .int .i64 1] ⟨rfl, ⟨rfl, trivial⟩⟩ (v := .tuple #[.pointer none, .int .i64 1]) rfl ?_
      exact ⟨[], .inl ⟨by omega, rfl, rfl⟩, H⟩
    · -- no: (4096 : Int) < (k : Int)
      refine k_skip ?_
      refine k_seq ?_
      refine s_region ?_
      refine s_do rfl rfl rfl (d_move rfl rfl) ?_
      refine s_do rfl rfl rfl (d_mul64 rfl rfl rfl (r := ((k * 256 : Nat) : Int)) (by omega) (by omega)) ?_
      refine s_go rfl rfl rfl (n_make (k := (k * 256)) H rfl (by kernel_rfl) (Elt.mk (P := Tryz.prog) (e := 5) (z := u8 0) (sz := 1) (by_ := 1) (by kernel_rfl) rfl (by omega) (by omega)) rfl rfl rfl (by omega)) ?_
      rintro _ w ⟨b1, rfl, H'⟩
      have H : Sep z (blk b1 (List.replicate (k * 256) (u8 0)) 5 :: R) w := H'
      clear H'
      refine s_go rfl rfl rfl (n_makeMap H rfl) ?_
      rintro _ w ⟨m2, rfl, H'⟩
      have H : Sep z (mapB m2 ([]) 0 :: blk b1 (List.replicate (k * 256) (u8 0)) 5 :: R) w := H'
      clear H'
      refine s_do rfl rfl rfl (d_build rfl rfl (out := [.slice (some ⟨b1, 0, none⟩) (k * 256) (k * 256), .map (some m2), .int .i64 0, .int .i64 0, .int .i64 0, .int .i64 0, .bool false, .int .i64 0]) (by kernel_rfl)) ?_
      refine s_go rfl rfl rfl (n_box H rfl rfl (cs := [.slice (some ⟨b1, 0, none⟩) (k * 256) (k * 256), .map (some m2), .int .i64 0, .int .i64 0, .int .i64 0, .int .i64 0, .bool false, .int .i64 0]) rfl) ?_
      rintro _ w ⟨b3, rfl, H'⟩
      have H : Sep z (blk b3 [.slice (some ⟨b1, 0, none⟩) (k * 256) (k * 256), .map (some m2), .int .i64 0, .int .i64 0, .int .i64 0, .int .i64 0, .bool false, .int .i64 0] 74 :: mapB m2 ([]) 0 :: blk b1 (List.replicate (k * 256) (u8 0)) 5 :: R) w := H'
      clear H'
      refine s_do rfl rfl rfl (d_assign rfl rfl) ?_
      refine s_do rfl rfl rfl (d_assign rfl rfl) ?_
      refine s_end ?_
      refine k_ret ?_
      refine doneL rfl [.pointer (some ⟨b3, 0, none⟩), .int .i64 0] ⟨rfl, ⟨rfl, trivial⟩⟩ (v := .tuple #[.pointer (some ⟨b3, 0, none⟩), .int .i64 0]) rfl ?_
      have H' := pool0 H
      have H : Sep z (poolA (fun _ => none) :: blk b3 [.slice (some ⟨b1, 0, none⟩) (k * 256) (k * 256), .map (some m2), .int .i64 0, .int .i64 0, .int .i64 0, .int .i64 0, .bool false, .int .i64 0] 74 :: mapB m2 ([]) 0 :: blk b1 (List.replicate (k * 256) (u8 0)) 5 :: R) w := H'
      clear H'
      have H' := H.void (B := seps (([] : List Ent).map Ent.row)) (fun h => ⟨fun _ => 0, fun i A e => by cases e⟩)
      have H : Sep z (seps (([] : List Ent).map Ent.row) :: poolA (fun _ => none) :: blk b3 [.slice (some ⟨b1, 0, none⟩) (k * 256) (k * 256), .map (some m2), .int .i64 0, .int .i64 0, .int .i64 0, .int .i64 0, .bool false, .int .i64 0] 74 :: mapB m2 ([]) 0 :: blk b1 (List.replicate (k * 256) (u8 0)) 5 :: R) w := H'
      clear H'
      have hbs : List.replicate (k * 256) (u8 0) = (List.replicate (k * 256) (0 : UInt8)).map u8 := by simp
      rw [hbs] at H
      have H : Sep z (seps (([] : List Ent).map Ent.row) :: poolA (fun _ => none) :: blk b3 [.slice (some ⟨b1, 0, none⟩) (k * 256) (k * 256), .map (some m2), .int .i64 0, .int .i64 0, .int .i64 0, .int .i64 0, .bool false, .int .i64 0] 74 :: mapB m2 (([] : List Ent).map Ent.ie) 0 :: blk b1 ((List.replicate (k * 256) (0 : UInt8)).map u8) 5 :: R) w := H
      have H' := H.pick 5 [2, 4, 3, 1, 0] rfl
      have H : Sep z (blk b3 [.slice (some ⟨b1, 0, none⟩) (k * 256) (k * 256), .map (some m2), .int .i64 0, .int .i64 0, .int .i64 0, .int .i64 0, .bool false, .int .i64 0] 74 :: blk b1 ((List.replicate (k * 256) (0 : UInt8)).map u8) 5 :: mapB m2 (([] : List Ent).map Ent.ie) 0 :: poolA (fun _ => none) :: seps (([] : List Ent).map Ent.row) :: R) w := H'
      clear H'
      have H' := Sep.toDisk (D := newD k) (pd := b3) (bd := b1) (m := m2) (f0 := 0) (bs := (List.replicate (k * 256) 0)) (es := ([] : List Ent)) (clk := 0) (hq := (fun _ => none)) (Γ := R) H (newD_ok (by omega)) newD_in
      have H : Sep z (diskA b3 (newD k) :: R) w := H'
      clear H'
      exact ⟨[diskA b3 (newD k)], .inr ⟨by omega, b3, rfl, rfl⟩, H⟩

theorem lread_c (pl pd pt : Nat) (s : Sup) (at_ sq us : Int) (br nu : Bool) (x : Int) (D : Dsk) (hf1 : D.f1 = 0) (hr : 0 ≤ s.start ∧ 0 < s.len ∧ s.start + s.len ≤ D.n) (hx : 0 ≤ x ∧ x ≤ 1152921504606846976) (sec : List UInt8) (hsec : D.cont (ringAt s x) = sec) : Cn Tryz.prog 43 [.pointer (some ⟨pl, 0, none⟩), .int .i64 x] [blk pl [.pointer (some ⟨pd, 0, none⟩), .pointer (some ⟨pt, 0, none⟩), .int .i64 s.gen, .int .i64 s.epoch, .int .i64 s.pages, .int .i64 s.start, .int .i64 s.len, .int .i64 s.head, .int .i64 s.seq, .int .i64 at_, .int .i64 sq, .int .i64 us, .bool br, .bool nu] 77, diskA pd D] (fun v Γ => (∃ g cap rest, v = .tuple #[.slice (some ⟨g, 0, none⟩) 256 cap, .int .i64 0] ∧ (256 ≤ cap ∧ cap ≤ 9223372036854775807 ∧ rest.length = cap - 256) ∧ Γ = [blk g (sec.map u8 ++ rest) 5, blk pl [.pointer (some ⟨pd, 0, none⟩), .pointer (some ⟨pt, 0, none⟩), .int .i64 s.gen, .int .i64 s.epoch, .int .i64 s.pages, .int .i64 s.start, .int .i64 s.len, .int .i64 s.head, .int .i64 s.seq, .int .i64 at_, .int .i64 sq, .int .i64 us, .bool br, .bool nu] 77, diskA pd D])) := by
  intro z R w H'
  have H : Sep z (blk pl [.pointer (some ⟨pd, 0, none⟩), .pointer (some ⟨pt, 0, none⟩), .int .i64 s.gen, .int .i64 s.epoch, .int .i64 s.pages, .int .i64 s.start, .int .i64 s.len, .int .i64 s.head, .int .i64 s.seq, .int .i64 at_, .int .i64 sq, .int .i64 us, .bool br, .bool nu] 77 :: diskA pd D :: R) w := H'
  clear H'
  have hn2 := H.says 1 rfl (fun h q => (diskA.ok q).n2)
  have hm1 := Int.emod_nonneg x (by omega : s.len ≠ 0)
  have hm2 := Int.emod_lt_of_pos x (by omega : 0 < s.len)
  refine enter Tryz.func43 rfl 26 Tryz.ntmps43 rfl ?_
  refine k_seq ?_
  refine s_region ?_
  refine s_do rfl rfl rfl (d_assign rfl rfl) ?_
  refine s_do rfl rfl rfl (d_assign rfl rfl) ?_
  refine s_end ?_
  refine k_seq ?_
  refine a_region (Sep z (blk pl [.pointer (some ⟨pd, 0, none⟩), .pointer (some ⟨pt, 0, none⟩), .int .i64 s.gen, .int .i64 s.epoch, .int .i64 s.pages, .int .i64 s.start, .int .i64 s.len, .int .i64 s.head, .int .i64 s.seq, .int .i64 at_, .int .i64 sq, .int .i64 us, .bool br, .bool nu] 77 :: diskA pd D :: R)) 22 rfl (by kernel_rfl) (fun w' x' _ => ?_)
  have H' := H.ext0 x'; clear x' H; revert H'; generalize w' = w; intro H'
  have H : Sep z (blk pl [.pointer (some ⟨pd, 0, none⟩), .pointer (some ⟨pt, 0, none⟩), .int .i64 s.gen, .int .i64 s.epoch, .int .i64 s.pages, .int .i64 s.start, .int .i64 s.len, .int .i64 s.head, .int .i64 s.seq, .int .i64 at_, .int .i64 sq, .int .i64 us, .bool br, .bool nu] 77 :: diskA pd D :: R) w := H'
  clear H'
  refine a_do 0 rfl (by kernel_rfl) (by kernel_rfl) (by kernel_rfl) rfl rfl rfl (d_move rfl rfl) H ?_
  refine a_do 1 rfl (by kernel_rfl) (by kernel_rfl) (by kernel_rfl) rfl rfl rfl (d_nilCheck rfl rfl) H ?_
  refine a_do 2 rfl (by kernel_rfl) (by kernel_rfl) (by kernel_rfl) rfl rfl rfl (d_field rfl (k := 0) (r := 0) (by kernel_rfl) rfl rfl) H ?_
  refine a_do 3 rfl (by kernel_rfl) (by kernel_rfl) (by kernel_rfl) rfl rfl rfl (d_load rfl rfl (by kernel_rfl) (fun _ hx => hx.cel 0 rfl 0 rfl)) H ?_
  refine a_do 4 rfl (by kernel_rfl) (by kernel_rfl) (by kernel_rfl) rfl rfl rfl (d_move rfl rfl) H ?_
  refine a_do 5 rfl (by kernel_rfl) (by kernel_rfl) (by kernel_rfl) rfl rfl rfl (d_nilCheck rfl rfl) H ?_
  refine a_do 6 rfl (by kernel_rfl) (by kernel_rfl) (by kernel_rfl) rfl rfl rfl (d_field rfl (k := 2) (r := 2) (by kernel_rfl) rfl rfl) H ?_
  refine a_do 7 rfl (by kernel_rfl) (by kernel_rfl) (by kernel_rfl) rfl rfl rfl (d_field rfl (k := 3) (r := 5) (by kernel_rfl) rfl rfl) H ?_
  refine a_do 8 rfl (by kernel_rfl) (by kernel_rfl) (by kernel_rfl) rfl rfl rfl (d_load rfl rfl (by kernel_rfl) (fun _ hx => hx.cel 0 rfl 5 rfl)) H ?_
  refine a_do 9 rfl (by kernel_rfl) (by kernel_rfl) (by kernel_rfl) rfl rfl rfl (d_move rfl rfl) H ?_
  refine a_do 10 rfl (by kernel_rfl) (by kernel_rfl) (by kernel_rfl) rfl rfl rfl (d_move rfl rfl) H ?_
  refine a_do 11 rfl (by kernel_rfl) (by kernel_rfl) (by kernel_rfl) rfl rfl rfl (d_nilCheck rfl rfl) H ?_
  refine a_do 12 rfl (by kernel_rfl) (by kernel_rfl) (by kernel_rfl) rfl rfl rfl (d_field rfl (k := 2) (r := 2) (by kernel_rfl) rfl rfl) H ?_
  refine a_do 13 rfl (by kernel_rfl) (by kernel_rfl) (by kernel_rfl) rfl rfl rfl (d_field rfl (k := 4) (r := 6) (by kernel_rfl) rfl rfl) H ?_
  refine a_do 14 rfl (by kernel_rfl) (by kernel_rfl) (by kernel_rfl) rfl rfl rfl (d_load rfl rfl (by kernel_rfl) (fun _ hx => hx.cel 0 rfl 6 rfl)) H ?_
  refine a_do 15 rfl (by kernel_rfl) (by kernel_rfl) (by kernel_rfl) rfl rfl rfl (d_rem64 rfl rfl rfl (r := x % s.len) (by omega) (by omega) (by omega)) H ?_
  refine a_do 16 rfl (by kernel_rfl) (by kernel_rfl) (by kernel_rfl) rfl rfl rfl (d_add64 rfl rfl rfl (r := s.start + (x % s.len)) (by omega) (by omega)) H ?_
  refine a_all [17] (by kernel_rfl) (by simp) ?_
  refine all1 ?_
  refine o_callC rfl rfl rfl rfl rfl rfl (fun w => Tryz.call55 _ w) (read_c _ _ _) H 2 [1, 0] rfl rfl ?_
  rintro _ w _ (⟨hn, rfl, rfl⟩ | ⟨_, hf, _⟩ | ⟨_, _, g, cap, rest, rfl, ⟨cg, cc, cl⟩, rfl⟩) H'
  · exact absurd ⟨by omega, by omega⟩ hn
  · exact absurd hf (by omega)
  · -- a case
    rw [diskA.f1 hf1] at H'
    have H : Sep z (blk g ((D.cont (s.start + (x % s.len)).toNat).map u8 ++ rest) 5 :: diskA pd D :: blk pl [.pointer (some ⟨pd, 0, none⟩), .pointer (some ⟨pt, 0, none⟩), .int .i64 s.gen, .int .i64 s.epoch, .int .i64 s.pages, .int .i64 s.start, .int .i64 s.len, .int .i64 s.head, .int .i64 s.seq, .int .i64 at_, .int .i64 sq, .int .i64 us, .bool br, .bool nu] 77 :: R) w := H'
    clear H'
    refine a_and (H.pick 3 [2, 1] rfl) ?_
    refine a_do 18 rfl (by kernel_rfl) (by kernel_rfl) (by kernel_rfl) rfl rfl rfl (d_extract rfl rfl rfl) (H.pick 3 [2, 1] rfl) ?_
    refine a_do 19 rfl (by kernel_rfl) (by kernel_rfl) (by kernel_rfl) rfl rfl rfl (d_extract rfl rfl rfl) (H.pick 3 [2, 1] rfl) ?_
    refine a_do 20 rfl (by kernel_rfl) (by kernel_rfl) (by kernel_rfl) rfl rfl rfl (d_assign rfl rfl) (H.pick 3 [2, 1] rfl) ?_
    refine a_do 21 rfl (by kernel_rfl) (by kernel_rfl) (by kernel_rfl) rfl rfl rfl (d_assign rfl rfl) (H.pick 3 [2, 1] rfl) ?_
    refine a_done (by kernel_rfl) ?_
    refine k_ret ?_
    refine doneL rfl [.slice (some ⟨g, 0, none⟩) 256 cap, .int .i64 0] ⟨rfl, ⟨rfl, trivial⟩⟩ (v := .tuple #[.slice (some ⟨g, 0, none⟩) 256 cap, .int .i64 0]) rfl ?_
    subst hsec
    exact ⟨[blk g ((D.cont (s.start + (x % s.len)).toNat).map u8 ++ rest) 5, blk pl [.pointer (some ⟨pd, 0, none⟩), .pointer (some ⟨pt, 0, none⟩), .int .i64 s.gen, .int .i64 s.epoch, .int .i64 s.pages, .int .i64 s.start, .int .i64 s.len, .int .i64 s.head, .int .i64 s.seq, .int .i64 at_, .int .i64 sq, .int .i64 us, .bool br, .bool nu] 77, diskA pd D], ⟨g, cap, rest, rfl, ⟨cg, cc, cl⟩, rfl⟩, H.perm 3 [0, 2, 1] rfl rfl⟩
end Go.Proofs.YtanejicgmgpjcaaGreatDoor
