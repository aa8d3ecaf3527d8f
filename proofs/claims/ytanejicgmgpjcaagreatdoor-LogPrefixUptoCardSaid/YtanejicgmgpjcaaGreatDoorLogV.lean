/-
  Walks: a record put. No condition.
-/
import Derived.Test.YtanejicgmgpjcaaGreatDoorLogU
import Derived.Test.YtanejicgmgpjcaaGreatDoorLogE
set_option maxRecDepth 100000
namespace Go.Proofs.YtanejicgmgpjcaaGreatDoor
open Go.RowKit
theorem writen_c (pd b off c n : Nat) (D : Dsk) (x : Int) (ps : List (List UInt8)) (A : Asn) (hps : ∀ p ∈ ps, p.length = 256) (hm : 1 ≤ ps.length ∧ ps.length ≤ 4096) (hver : ∀ i, (D.ver i).length ≤ 1099511627776) (hn : ps.length * 256 = n) (hA : ∀ h, A h → rdH 1 (.slice (some ⟨b, off, none⟩) n c) n (ps.flatten.map u8) h) :
    Cn Tryz.prog 24 [.pointer (some ⟨pd, 0, none⟩), .int .i64 x, .slice (some ⟨b, off, none⟩) n c, .bool false] [diskA pd D, A] (fun v Γ => (¬ (0 ≤ x ∧ x + ps.length ≤ (D.n : Int)) ∧ v = .int .i64 2 ∧ Γ = [diskA pd D, A]) ∨ ((0 ≤ x ∧ x + ps.length ≤ (D.n : Int)) ∧ D.bad ∧ v = .int .i64 11 ∧ Γ = [diskA pd D.wf, A]) ∨ ((0 ≤ x ∧ x + ps.length ≤ (D.n : Int)) ∧ ¬ D.bad ∧ v = .int .i64 0 ∧ Γ = [diskA pd (D.wr x.toNat ps), A])) := by
  subst hn
  refine Cn.mono (write_c pd b off c D x false ps A hps hm hver hA) ?_
  rintro v Γ (⟨h1, h2, h3⟩ | ⟨h1, h2, h3, h4⟩ | ⟨h1, ⟨h2, h2'⟩, h3, h4⟩)
  · exact .inl ⟨h1, h2, h3⟩
  · exact .inr (.inl ⟨h1, h2, h3, h4⟩)
  · exact .inr (.inr ⟨h1, fun q => by rcases q with q | q; exact h2 q; exact h2' q, h3, h4⟩)

set_option maxHeartbeats 1000000 in
theorem append_c (pl pd pt : Nat) (s : Sup) (at_ sq us : Int) (br nu : Bool) (v : Value) (ims : List Img) (A : Asn) (hA : ∀ h, A h → imgsH v ims h) (D : Dsk) (hok : s.Ok (D.n : Int)) (hnu : nu = decide (s.epoch < 4294967296)) (hat : 0 ≤ at_ ∧ at_ < s.len) (hsq : 0 ≤ sq ∧ sq ≤ 2199023255552) (hu : 0 ≤ us ∧ us ≤ s.len) (hver : ∀ i, (D.ver i).length ≤ 1000000000000) : Cn Tryz.prog 9 [.pointer (some ⟨pl, 0, none⟩), v] [blk pl [.pointer (some ⟨pd, 0, none⟩), .pointer (some ⟨pt, 0, none⟩), .int .i64 s.gen, .int .i64 s.epoch, .int .i64 s.pages, .int .i64 s.start, .int .i64 s.len, .int .i64 s.head, .int .i64 s.seq, .int .i64 at_, .int .i64 sq, .int .i64 us, .bool br, .bool nu] 77, tblA pt, diskA pd D, A] (fun v Γ => (ims.length > 40 ∧ v = .int .i64 16 ∧ Γ = [blk pl [.pointer (some ⟨pd, 0, none⟩), .pointer (some ⟨pt, 0, none⟩), .int .i64 s.gen, .int .i64 s.epoch, .int .i64 s.pages, .int .i64 s.start, .int .i64 s.len, .int .i64 s.head, .int .i64 s.seq, .int .i64 at_, .int .i64 sq, .int .i64 us, .bool br, .bool nu] 77, tblA pt, diskA pd D, A]) ∨ (ims.length ≤ 40 ∧ (ims = [] ∨ ¬ recOK ims) ∧ v = .int .i64 1 ∧ Γ = [blk pl [.pointer (some ⟨pd, 0, none⟩), .pointer (some ⟨pt, 0, none⟩), .int .i64 s.gen, .int .i64 s.epoch, .int .i64 s.pages, .int .i64 s.start, .int .i64 s.len, .int .i64 s.head, .int .i64 s.seq, .int .i64 at_, .int .i64 sq, .int .i64 us, .bool br, .bool nu] 77, tblA pt, diskA pd D, A]) ∨ ((1 ≤ ims.length ∧ ims.length ≤ 40) ∧ recOK ims ∧ ¬ (1 + (ims.length : Int) ≤ (if br then 0 else s.len - us) ∧ nu = true ∧ sq < 1099511627776) ∧ v = .int .i64 15 ∧ Γ = [blk pl [.pointer (some ⟨pd, 0, none⟩), .pointer (some ⟨pt, 0, none⟩), .int .i64 s.gen, .int .i64 s.epoch, .int .i64 s.pages, .int .i64 s.start, .int .i64 s.len, .int .i64 s.head, .int .i64 s.seq, .int .i64 at_, .int .i64 sq, .int .i64 us, .bool br, .bool nu] 77, tblA pt, diskA pd D, A]) ∨
  ((1 ≤ ims.length ∧ ims.length ≤ 40) ∧ recOK ims ∧ (1 + (ims.length : Int) ≤ (if br then 0 else s.len - us) ∧ nu = true ∧ sq < 1099511627776) ∧ ∃ (k : Nat), (k : Int) = min (1 + (ims.length : Int)) (s.len - at_) ∧ ((¬ D.bad ∧ k = 1 + ims.length ∧ v = .int .i64 0 ∧ Γ = [blk pl [.pointer (some ⟨pd, 0, none⟩), .pointer (some ⟨pt, 0, none⟩), .int .i64 s.gen, .int .i64 s.epoch, .int .i64 s.pages, .int .i64 s.start, .int .i64 s.len, .int .i64 s.head, .int .i64 s.seq, .int .i64 ((at_ + (1 + (ims.length : Int))) % s.len), .int .i64 (sq + 1), .int .i64 (us + (1 + (ims.length : Int))), .bool br, .bool nu] 77, tblA pt, diskA pd (D.wr (s.start + at_).toNat ((recB s.epoch sq ims).take k)), A]) ∨ (¬ D.bad ∧ k < 1 + ims.length ∧ ¬ Dsk.bad (D.wr (s.start + at_).toNat ((recB s.epoch sq ims).take k)) ∧ v = .int .i64 0 ∧ Γ = [blk pl [.pointer (some ⟨pd, 0, none⟩), .pointer (some ⟨pt, 0, none⟩), .int .i64 s.gen, .int .i64 s.epoch, .int .i64 s.pages, .int .i64 s.start, .int .i64 s.len, .int .i64 s.head, .int .i64 s.seq, .int .i64 ((at_ + (1 + (ims.length : Int))) % s.len), .int .i64 (sq + 1), .int .i64 (us + (1 + (ims.length : Int))), .bool br, .bool nu] 77, tblA pt, diskA pd ((D.wr (s.start + at_).toNat ((recB s.epoch sq ims).take k)).wr s.start.toNat ((recB s.epoch sq ims).drop k)), A]) ∨
    (D.bad ∧ v = .int .i64 11 ∧ Γ = [blk pl [.pointer (some ⟨pd, 0, none⟩), .pointer (some ⟨pt, 0, none⟩), .int .i64 s.gen, .int .i64 s.epoch, .int .i64 s.pages, .int .i64 s.start, .int .i64 s.len, .int .i64 s.head, .int .i64 s.seq, .int .i64 at_, .int .i64 (sq + 1), .int .i64 us, .bool true, .bool nu] 77, tblA pt, diskA pd D.wf, A]) ∨ (¬ D.bad ∧ k < 1 + ims.length ∧ Dsk.bad (D.wr (s.start + at_).toNat ((recB s.epoch sq ims).take k)) ∧ v = .int .i64 11 ∧ Γ = [blk pl [.pointer (some ⟨pd, 0, none⟩), .pointer (some ⟨pt, 0, none⟩), .int .i64 s.gen, .int .i64 s.epoch, .int .i64 s.pages, .int .i64 s.start, .int .i64 s.len, .int .i64 s.head, .int .i64 s.seq, .int .i64 at_, .int .i64 (sq + 1), .int .i64 us, .bool true, .bool nu] 77, tblA pt, diskA pd (Dsk.wf (D.wr (s.start + at_).toNat ((recB s.epoch sq ims).take k))), A])))) := by
  intro z R w H'
  have H : Sep z (blk pl [.pointer (some ⟨pd, 0, none⟩), .pointer (some ⟨pt, 0, none⟩), .int .i64 s.gen, .int .i64 s.epoch, .int .i64 s.pages, .int .i64 s.start, .int .i64 s.len, .int .i64 s.head, .int .i64 s.seq, .int .i64 at_, .int .i64 sq, .int .i64 us, .bool br, .bool nu] 77 :: tblA pt :: diskA pd D :: A :: R) w := H'
  clear H'
  obtain ⟨ao, ic, rfl⟩ := H.says 3 rfl (fun h q => (hA h q).slc)
  have hn2 := H.says 2 rfl (fun h q => (diskA.ok q).n2)
  have hims := H.says 3 rfl (fun h q => (hA h q).small)
  have hsg := Sup.get hok
  have hok2 := hok.2
  have hlen40 : ims.length ≤ 40 ∨ 40 < ims.length := by omega
  refine enter Tryz.func9 rfl 96 Tryz.ntmps9 rfl ?_
  refine k_seq ?_
  refine s_region ?_
  refine s_do rfl rfl rfl (d_assign rfl rfl) ?_
  refine s_end ?_
  refine k_seq ?_
  refine k_block ?_
  refine k_seq ?_
  refine s_region ?_
  refine s_do rfl rfl rfl (d_move rfl rfl) ?_
  refine s_do rfl rfl rfl (d_len rfl (z := 3) (by kernel_rfl) rfl) ?_
  refine s_do rfl rfl rfl (d_gtr rfl rfl rfl) ?_
  refine s_do rfl rfl rfl (d_assign rfl rfl) ?_
  refine s_end ?_
  refine k_dec rfl (fun h1 => ?_) (fun h1 => ?_)
  · -- yes: (40 : Int) < (ims.length : Int)
    refine k_seq ?_
    refine s_region ?_
    refine s_do rfl rfl rfl (d_assign rfl rfl) ?_
    refine s_end ?_
    refine k_ret ?_
    refine doneL rfl [.int .i64 16] ⟨rfl, trivial⟩ (v := .int .i64 16) rfl ?_
    exact ⟨_, .inl ⟨by omega, rfl, rfl⟩, H.perm 4 [0, 1, 2, 3] rfl rfl⟩
  · -- no: (40 : Int) < (ims.length : Int)
    have hlen40 : ims.length ≤ 40 := by omega
    refine k_seq ?_
    refine s_region ?_
    refine s_do rfl rfl rfl (d_move rfl rfl) ?_
    refine s_do rfl rfl rfl (d_len rfl (z := 3) (by kernel_rfl) rfl) ?_
    refine s_do rfl rfl rfl (d_eql rfl rfl rfl) ?_
    refine s_do rfl rfl rfl (d_assign rfl rfl) ?_
    refine s_end ?_
    refine k_dec rfl (fun h2 => ?_) (fun h2 => ?_)
    · -- yes: (ims.length : Int) = 0
      refine k_seq ?_
      refine s_region ?_
      refine s_do rfl rfl rfl (d_assign rfl rfl) ?_
      refine s_end ?_
      refine k_ret ?_
      refine doneL rfl [.int .i64 1] ⟨rfl, trivial⟩ (v := .int .i64 1) rfl ?_
      exact ⟨_, .inr (.inl ⟨by omega, by first | exact .inr hrec | exact .inl (List.eq_nil_of_length_eq_zero (by omega)), rfl, rfl⟩), H.perm 4 [0, 1, 2, 3] rfl rfl⟩
    · -- no: (ims.length : Int) = 0
      refine k_skip ?_
      refine k_seq ?_
      refine s_region ?_
      refine s_do rfl rfl rfl (d_move rfl rfl) ?_
      refine s_do rfl rfl rfl (d_move rfl rfl) ?_
      refine s_callC rfl rfl rfl rfl rfl (fun w => Tryz.call23 _ w) (record_c _ _ _ _ _ _ _ _ _ _ _ _ hA hnu (by omega) (by omega) ⟨by omega, by omega⟩ (by omega) (by omega)) H 4 [0, 1, 3, 2] rfl rfl ?_
      rintro _ w _ (⟨hrec, rfl, rfl⟩ | ⟨hrec, hroom, rfl, rfl⟩ | ⟨hrec, hroom, v1, rfl, rfl⟩) H'
      · -- a case
        have H : Sep z (blk pl [.pointer (some ⟨pd, 0, none⟩), .pointer (some ⟨pt, 0, none⟩), .int .i64 s.gen, .int .i64 s.epoch, .int .i64 s.pages, .int .i64 s.start, .int .i64 s.len, .int .i64 s.head, .int .i64 s.seq, .int .i64 at_, .int .i64 sq, .int .i64 us, .bool br, .bool nu] 77 :: tblA pt :: A :: diskA pd D :: R) w := H'
        clear H'
        refine s_do rfl rfl rfl (d_move rfl rfl) ?_
        refine s_do rfl rfl rfl (d_extract rfl rfl rfl) ?_
        refine s_do rfl rfl rfl (d_extract rfl rfl rfl) ?_
        refine s_do rfl rfl rfl (d_assign rfl rfl) ?_
        refine s_do rfl rfl rfl (d_assign rfl rfl) ?_
        refine s_end ?_
        refine k_seq ?_
        refine k_seq ?_
        refine s_region ?_
        refine s_do rfl rfl rfl (d_move rfl rfl) ?_
        refine s_do rfl rfl rfl (d_neq rfl rfl rfl) ?_
        refine k_updA 23 (u := .bool (decide ((1 : Int) ≠ 0))) (v := .bool true) rfl (congrArg Value.bool (by decide)) ?_
        refine s_end ?_
        refine k_true rfl ?_
        refine k_seq ?_
        refine s_region ?_
        refine s_do rfl rfl rfl (d_move rfl rfl) ?_
        refine s_do rfl rfl rfl (d_assign rfl rfl) ?_
        refine s_end ?_
        refine k_ret ?_
        refine doneL rfl [.int .i64 1] ⟨rfl, trivial⟩ (v := .int .i64 1) rfl ?_
        exact ⟨_, .inr (.inl ⟨by omega, by first | exact .inr hrec | exact .inl (List.eq_nil_of_length_eq_zero (by omega)), rfl, rfl⟩), H.perm 4 [0, 1, 3, 2] rfl rfl⟩
      · -- a case
        have H : Sep z (blk pl [.pointer (some ⟨pd, 0, none⟩), .pointer (some ⟨pt, 0, none⟩), .int .i64 s.gen, .int .i64 s.epoch, .int .i64 s.pages, .int .i64 s.start, .int .i64 s.len, .int .i64 s.head, .int .i64 s.seq, .int .i64 at_, .int .i64 sq, .int .i64 us, .bool br, .bool nu] 77 :: tblA pt :: A :: diskA pd D :: R) w := H'
        clear H'
        refine s_do rfl rfl rfl (d_move rfl rfl) ?_
        refine s_do rfl rfl rfl (d_extract rfl rfl rfl) ?_
        refine s_do rfl rfl rfl (d_extract rfl rfl rfl) ?_
        refine s_do rfl rfl rfl (d_assign rfl rfl) ?_
        refine s_do rfl rfl rfl (d_assign rfl rfl) ?_
        refine s_end ?_
        refine k_seq ?_
        refine k_seq ?_
        refine s_region ?_
        refine s_do rfl rfl rfl (d_move rfl rfl) ?_
        refine s_do rfl rfl rfl (d_neq rfl rfl rfl) ?_
        refine k_updA 23 (u := .bool (decide ((15 : Int) ≠ 0))) (v := .bool true) rfl (congrArg Value.bool (by decide)) ?_
        refine s_end ?_
        refine k_true rfl ?_
        refine k_seq ?_
        refine s_region ?_
        refine s_do rfl rfl rfl (d_move rfl rfl) ?_
        refine s_do rfl rfl rfl (d_assign rfl rfl) ?_
        refine s_end ?_
        refine k_ret ?_
        refine doneL rfl [.int .i64 15] ⟨rfl, trivial⟩ (v := .int .i64 15) rfl ?_
        exact ⟨_, .inr (.inr (.inl ⟨⟨by omega, by omega⟩, hrec, hroom, rfl, rfl⟩)), H.perm 4 [0, 1, 3, 2] rfl rfl⟩
      · -- a case
        have H : Sep z (grow 5 1 v1 ((1 + ims.length) * 256) ((recB s.epoch sq ims).flatten.map u8) :: blk pl [.pointer (some ⟨pd, 0, none⟩), .pointer (some ⟨pt, 0, none⟩), .int .i64 s.gen, .int .i64 s.epoch, .int .i64 s.pages, .int .i64 s.start, .int .i64 s.len, .int .i64 s.head, .int .i64 s.seq, .int .i64 at_, .int .i64 sq, .int .i64 us, .bool br, .bool nu] 77 :: tblA pt :: A :: diskA pd D :: R) w := H'
        clear H'
        have hrb := recB_ok (e := s.epoch) (sq := sq) hrec.1 hlen40
        refine s_do rfl rfl rfl (d_move rfl rfl) ?_
        obtain ⟨gb, gc, rfl, hgc, hgc2⟩ := H.says 0 rfl (fun h q => q.sl (by omega))
        generalize hps : recB s.epoch sq ims = ps at H hrb
        obtain ⟨hp256, hpl⟩ := hrb
        have hfl := flat_256 hp256
        have H : Sep z (grow 5 1 (.slice (some ⟨gb, 0, none⟩) ((1 + ims.length) * 256) gc) ((1 + ims.length) * 256) (ps.flatten.map u8) :: blk pl [.pointer (some ⟨pd, 0, none⟩), .pointer (some ⟨pt, 0, none⟩), .int .i64 s.gen, .int .i64 s.epoch, .int .i64 s.pages, .int .i64 s.start, .int .i64 s.len, .int .i64 s.head, .int .i64 s.seq, .int .i64 at_, .int .i64 sq, .int .i64 us, .bool br, .bool nu] 77 :: tblA pt :: A :: diskA pd D :: R) w := H
        obtain ⟨k, hk⟩ : ∃ k : Nat, (k : Int) = min (1 + (ims.length : Int)) (s.len - at_) := ⟨(min (1 + (ims.length : Int)) (s.len - at_)).toNat, by omega⟩
        have hkl : (ps.take k).length = k := by rw [List.length_take]; omega
        have hkd : (ps.drop k).length = 1 + ims.length - k := by rw [List.length_drop]; omega
        refine s_do rfl rfl rfl (d_extract rfl rfl rfl) ?_
        refine s_do rfl rfl rfl (d_extract rfl rfl rfl) ?_
        refine s_do rfl rfl rfl (d_assign rfl rfl) ?_
        refine s_do rfl rfl rfl (d_assign rfl rfl) ?_
        refine s_end ?_
        refine k_seq ?_
        refine k_seq ?_
        refine s_region ?_
        refine s_do rfl rfl rfl (d_move rfl rfl) ?_
        refine s_do rfl rfl rfl (d_neq rfl rfl rfl) ?_
        refine k_updA 23 (u := .bool (decide ((0 : Int) ≠ 0))) (v := .bool false) rfl (congrArg Value.bool (by decide)) ?_
        refine s_end ?_
        refine k_false rfl ?_
        refine k_skip ?_
        refine k_seq ?_
        refine q_region (Sep z (grow 5 1 (.slice (some ⟨gb, 0, none⟩) ((1 + ims.length) * 256) gc) ((1 + ims.length) * 256) (ps.flatten.map u8) :: blk pl [.pointer (some ⟨pd, 0, none⟩), .pointer (some ⟨pt, 0, none⟩), .int .i64 s.gen, .int .i64 s.epoch, .int .i64 s.pages, .int .i64 s.start, .int .i64 s.len, .int .i64 s.head, .int .i64 s.seq, .int .i64 at_, .int .i64 sq, .int .i64 us, .bool br, .bool nu] 77 :: tblA pt :: A :: diskA pd D :: R)) (by kernel_rfl) (by kernel_rfl) H.drew ?_
        refine q_do rfl rfl rfl (d_move rfl rfl) ?_
        refine q_do rfl rfl rfl (d_len rfl (z := 1) (by kernel_rfl) rfl) ?_
        refine q_do rfl rfl rfl (d_move rfl rfl) ?_
        refine q_do rfl rfl rfl (d_nilCheck rfl rfl) ?_
        refine q_do rfl rfl rfl (d_field rfl (k := 2) (r := 2) (by kernel_rfl) rfl rfl) ?_
        refine q_do rfl rfl rfl (d_field rfl (k := 4) (r := 6) (by kernel_rfl) rfl rfl) ?_
        refine q_do rfl rfl rfl (d_load rfl rfl (by kernel_rfl) (fun _ hx => hx.cel 1 rfl 6 rfl)) ?_
        refine q_do rfl rfl rfl (d_move rfl rfl) ?_
        refine q_do rfl rfl rfl (d_nilCheck rfl rfl) ?_
        refine q_do rfl rfl rfl (d_field rfl (k := 9) (r := 9) (by kernel_rfl) rfl rfl) ?_
        refine q_do rfl rfl rfl (d_load rfl rfl (by kernel_rfl) (fun _ hx => hx.cel 1 rfl 9 rfl)) ?_
        refine q_do rfl rfl rfl (d_sub64 rfl rfl rfl (r := s.len - at_) (by omega) (by omega)) ?_
        refine q_do rfl rfl rfl (d_mul64 rfl rfl rfl (r := (s.len - at_) * 256) (by omega) (by omega)) ?_
        refine q_do rfl rfl rfl (d_min rfl rfl rfl) ?_
        refine k_updA 38 (u := .int .i64 (min ((((1 + ims.length) * 256 : Nat) : Int) : Int) ((s.len - at_) * 256))) (v := .int .i64 ((k * 256 : Nat) : Int)) rfl (congrArg (Value.int .i64) (by omega)) ?_
        refine q_do rfl rfl rfl (d_assign rfl rfl) ?_
        refine q_end (fun w H' => ?_)
        have H : Sep z (grow 5 1 (.slice (some ⟨gb, 0, none⟩) ((1 + ims.length) * 256) gc) ((1 + ims.length) * 256) (ps.flatten.map u8) :: blk pl [.pointer (some ⟨pd, 0, none⟩), .pointer (some ⟨pt, 0, none⟩), .int .i64 s.gen, .int .i64 s.epoch, .int .i64 s.pages, .int .i64 s.start, .int .i64 s.len, .int .i64 s.head, .int .i64 s.seq, .int .i64 at_, .int .i64 sq, .int .i64 us, .bool br, .bool nu] 77 :: tblA pt :: A :: diskA pd D :: R) w := H'
        clear H'
        refine k_seq ?_
        have H' := H.pick 5 [1, 0, 2, 3, 4] rfl
        have H : Sep z (blk pl [.pointer (some ⟨pd, 0, none⟩), .pointer (some ⟨pt, 0, none⟩), .int .i64 s.gen, .int .i64 s.epoch, .int .i64 s.pages, .int .i64 s.start, .int .i64 s.len, .int .i64 s.head, .int .i64 s.seq, .int .i64 at_, .int .i64 sq, .int .i64 us, .bool br, .bool nu] 77 :: grow 5 1 (.slice (some ⟨gb, 0, none⟩) ((1 + ims.length) * 256) gc) ((1 + ims.length) * 256) (ps.flatten.map u8) :: tblA pt :: A :: diskA pd D :: R) w := H'
        clear H'
        refine a_region (Sep z (blk pl [.pointer (some ⟨pd, 0, none⟩), .pointer (some ⟨pt, 0, none⟩), .int .i64 s.gen, .int .i64 s.epoch, .int .i64 s.pages, .int .i64 s.start, .int .i64 s.len, .int .i64 s.head, .int .i64 s.seq, .int .i64 at_, .int .i64 sq, .int .i64 us, .bool br, .bool nu] 77 :: R)) 19 rfl (by kernel_rfl) (fun w' x' _ => ?_)
        have H' := H.ext0 x'; clear x' H; revert H'; generalize w' = w; intro H'
        have H : Sep z (blk pl [.pointer (some ⟨pd, 0, none⟩), .pointer (some ⟨pt, 0, none⟩), .int .i64 s.gen, .int .i64 s.epoch, .int .i64 s.pages, .int .i64 s.start, .int .i64 s.len, .int .i64 s.head, .int .i64 s.seq, .int .i64 at_, .int .i64 sq, .int .i64 us, .bool br, .bool nu] 77 :: grow 5 1 (.slice (some ⟨gb, 0, none⟩) ((1 + ims.length) * 256) gc) ((1 + ims.length) * 256) (ps.flatten.map u8) :: tblA pt :: A :: diskA pd D :: R) w := H'
        clear H'
        refine a_do 0 rfl (by kernel_rfl) (by kernel_rfl) (by kernel_rfl) rfl rfl rfl (d_move rfl rfl) (H.pick 5 [0] rfl) ?_
        refine a_do 1 rfl (by kernel_rfl) (by kernel_rfl) (by kernel_rfl) rfl rfl rfl (d_nilCheck rfl rfl) (H.pick 5 [0] rfl) ?_
        refine a_do 2 rfl (by kernel_rfl) (by kernel_rfl) (by kernel_rfl) rfl rfl rfl (d_field rfl (k := 0) (r := 0) (by kernel_rfl) rfl rfl) (H.pick 5 [0] rfl) ?_
        refine a_do 3 rfl (by kernel_rfl) (by kernel_rfl) (by kernel_rfl) rfl rfl rfl (d_load rfl rfl (by kernel_rfl) (fun _ hx => hx.cel 0 rfl 0 rfl)) (H.pick 5 [0] rfl) ?_
        refine a_do 4 rfl (by kernel_rfl) (by kernel_rfl) (by kernel_rfl) rfl rfl rfl (d_move rfl rfl) (H.pick 5 [0] rfl) ?_
        refine a_do 5 rfl (by kernel_rfl) (by kernel_rfl) (by kernel_rfl) rfl rfl rfl (d_nilCheck rfl rfl) (H.pick 5 [0] rfl) ?_
        refine a_do 6 rfl (by kernel_rfl) (by kernel_rfl) (by kernel_rfl) rfl rfl rfl (d_field rfl (k := 2) (r := 2) (by kernel_rfl) rfl rfl) (H.pick 5 [0] rfl) ?_
        refine a_do 7 rfl (by kernel_rfl) (by kernel_rfl) (by kernel_rfl) rfl rfl rfl (d_field rfl (k := 3) (r := 5) (by kernel_rfl) rfl rfl) (H.pick 5 [0] rfl) ?_
        refine a_do 8 rfl (by kernel_rfl) (by kernel_rfl) (by kernel_rfl) rfl rfl rfl (d_load rfl rfl (by kernel_rfl) (fun _ hx => hx.cel 0 rfl 5 rfl)) (H.pick 5 [0] rfl) ?_
        refine a_do 9 rfl (by kernel_rfl) (by kernel_rfl) (by kernel_rfl) rfl rfl rfl (d_move rfl rfl) (H.pick 5 [0] rfl) ?_
        refine a_do 10 rfl (by kernel_rfl) (by kernel_rfl) (by kernel_rfl) rfl rfl rfl (d_nilCheck rfl rfl) (H.pick 5 [0] rfl) ?_
        refine a_do 11 rfl (by kernel_rfl) (by kernel_rfl) (by kernel_rfl) rfl rfl rfl (d_field rfl (k := 9) (r := 9) (by kernel_rfl) rfl rfl) (H.pick 5 [0] rfl) ?_
        refine a_do 12 rfl (by kernel_rfl) (by kernel_rfl) (by kernel_rfl) rfl rfl rfl (d_load rfl rfl (by kernel_rfl) (fun _ hx => hx.cel 0 rfl 9 rfl)) (H.pick 5 [0] rfl) ?_
        refine a_do 13 rfl (by kernel_rfl) (by kernel_rfl) (by kernel_rfl) rfl rfl rfl (d_add64 rfl rfl rfl (r := s.start + at_) (by omega) (by omega)) (H.pick 5 [0] rfl) ?_
        refine a_do 14 rfl (by kernel_rfl) (by kernel_rfl) (by kernel_rfl) rfl rfl rfl (d_move rfl rfl) (H.pick 5 [0] rfl) ?_
        refine a_do 15 rfl (by kernel_rfl) (by kernel_rfl) (by kernel_rfl) rfl rfl rfl (d_move rfl rfl) (H.pick 5 [0] rfl) ?_
        refine a_do 16 rfl (by kernel_rfl) (by kernel_rfl) (by kernel_rfl) rfl rfl rfl (d_sliceC rfl (z := 1) (p := 0) (q := (k * 256)) (o' := 0) (l' := (k * 256)) (c' := gc) (by kernel_rfl) rfl (.inl ⟨rfl, rfl⟩) (.inr ⟨_, _, _, rfl, rfl, rfl⟩) (by omega) (by omega) (by omega) (by omega) (by omega) (by omega)) (H.pick 5 [0] rfl) ?_
        refine a_all [17] (by kernel_rfl) (by simp) ?_
        refine all1 ?_
        refine o_callC rfl rfl rfl rfl rfl rfl (fun w => Tryz.call24 _ w) (writen_c _ _ _ _ _ _ _ (ps.take k) _ (fun p hp => hp256 p (List.mem_of_mem_take hp)) (by omega) (fun i => by have := hver i; omega) (by rw [hkl]) (fun h q => by rw [flat_take hp256]; exact (grow.rdB q).pre (by omega) (by omega))) H 5 [4, 1, 0, 2, 3] rfl rfl ?_
        rintro _ w _ (⟨hn1, rfl, rfl⟩ | ⟨_, hbad1, rfl, rfl⟩ | ⟨_, hgood1, rfl, rfl⟩) H'
        · exact absurd ⟨by omega, by omega⟩ hn1
        · -- a case
          have H : Sep z (diskA pd D.wf :: grow 5 1 (.slice (some ⟨gb, 0, none⟩) ((1 + ims.length) * 256) gc) ((1 + ims.length) * 256) (ps.flatten.map u8) :: blk pl [.pointer (some ⟨pd, 0, none⟩), .pointer (some ⟨pt, 0, none⟩), .int .i64 s.gen, .int .i64 s.epoch, .int .i64 s.pages, .int .i64 s.start, .int .i64 s.len, .int .i64 s.head, .int .i64 s.seq, .int .i64 at_, .int .i64 sq, .int .i64 us, .bool br, .bool nu] 77 :: tblA pt :: A :: R) w := H'
          clear H'
          refine a_and (H.pick 5 [2] rfl) ?_
          refine a_do 18 rfl (by kernel_rfl) (by kernel_rfl) (by kernel_rfl) rfl rfl rfl (d_assign rfl rfl) (H.pick 5 [2] rfl) ?_
          refine a_done (by kernel_rfl) ?_
          refine k_seq ?_
          refine k_seq ?_
          refine s_region ?_
          refine s_do rfl rfl rfl (d_move rfl rfl) ?_
          refine s_do rfl rfl rfl (d_eql rfl rfl rfl) ?_
          refine k_updA 58 (u := .bool (decide ((11 : Int) = 0))) (v := .bool false) rfl (congrArg Value.bool (by decide)) ?_
          refine s_do rfl rfl rfl (d_move rfl rfl) ?_
          refine s_skip rfl rfl rfl ?_
          refine s_skip rfl rfl rfl ?_
          refine s_skip rfl rfl rfl ?_
          refine s_skip rfl rfl rfl ?_
          refine s_do rfl rfl rfl (d_pick_f rfl rfl rfl) ?_
          refine s_end ?_
          refine k_false rfl ?_
          refine k_skip ?_
          refine k_seq ?_
          refine k_seq ?_
          refine s_region ?_
          refine s_do rfl rfl rfl (d_move rfl rfl) ?_
          refine s_do rfl rfl rfl (d_neq rfl rfl rfl) ?_
          refine k_updA 79 (u := .bool (decide ((11 : Int) ≠ 0))) (v := .bool true) rfl (congrArg Value.bool (by decide)) ?_
          refine s_end ?_
          refine k_true rfl ?_
          refine k_seq ?_
          refine s_region ?_
          refine s_do rfl rfl rfl (d_move rfl rfl) ?_
          refine s_do rfl rfl rfl (d_nilCheck rfl rfl) ?_
          refine s_do rfl rfl rfl (d_field rfl (k := 10) (r := 10) (by kernel_rfl) rfl rfl) ?_
          refine s_do rfl rfl rfl (d_load rfl rfl (by kernel_rfl) (here (H.cel 2 rfl 10 rfl))) ?_
          refine s_do rfl rfl rfl (d_add64 rfl rfl rfl (r := sq + 1) (by omega) (by omega)) ?_
          refine s_do rfl rfl rfl (d_nilCheck rfl rfl) ?_
          refine s_do rfl rfl rfl (d_field rfl (k := 10) (r := 10) (by kernel_rfl) rfl rfl) ?_
          refine s_put rfl rfl (n_store 2 H rfl rfl rfl rfl (vs := [.int .i64 (sq + 1)]) rfl (by simp [u8, u32, Value.oneCell']) (by kernel_rfl) (by simp) (out := [.pointer (some ⟨pd, 0, none⟩), .pointer (some ⟨pt, 0, none⟩), .int .i64 s.gen, .int .i64 s.epoch, .int .i64 s.pages, .int .i64 s.start, .int .i64 s.len, .int .i64 s.head, .int .i64 s.seq, .int .i64 at_, .int .i64 (sq + 1), .int .i64 us, .bool br, .bool nu]) rfl) ?_
          rintro w H'
          have H : Sep z (diskA pd D.wf :: grow 5 1 (.slice (some ⟨gb, 0, none⟩) ((1 + ims.length) * 256) gc) ((1 + ims.length) * 256) (ps.flatten.map u8) :: blk pl [.pointer (some ⟨pd, 0, none⟩), .pointer (some ⟨pt, 0, none⟩), .int .i64 s.gen, .int .i64 s.epoch, .int .i64 s.pages, .int .i64 s.start, .int .i64 s.len, .int .i64 s.head, .int .i64 s.seq, .int .i64 at_, .int .i64 (sq + 1), .int .i64 us, .bool br, .bool nu] 77 :: tblA pt :: A :: R) w := H'
          clear H'
          refine s_end ?_
          refine k_seq ?_
          refine s_region ?_
          refine s_do rfl rfl rfl (d_move rfl rfl) ?_
          refine s_do rfl rfl rfl (d_nilCheck rfl rfl) ?_
          refine s_do rfl rfl rfl (d_field rfl (k := 12) (r := 12) (by kernel_rfl) rfl rfl) ?_
          refine s_put rfl rfl (n_store 2 H rfl rfl rfl rfl (vs := [.bool true]) rfl (by simp [u8, u32, Value.oneCell']) (by kernel_rfl) (by simp) (out := [.pointer (some ⟨pd, 0, none⟩), .pointer (some ⟨pt, 0, none⟩), .int .i64 s.gen, .int .i64 s.epoch, .int .i64 s.pages, .int .i64 s.start, .int .i64 s.len, .int .i64 s.head, .int .i64 s.seq, .int .i64 at_, .int .i64 (sq + 1), .int .i64 us, .bool true, .bool nu]) rfl) ?_
          rintro w H'
          have H : Sep z (diskA pd D.wf :: grow 5 1 (.slice (some ⟨gb, 0, none⟩) ((1 + ims.length) * 256) gc) ((1 + ims.length) * 256) (ps.flatten.map u8) :: blk pl [.pointer (some ⟨pd, 0, none⟩), .pointer (some ⟨pt, 0, none⟩), .int .i64 s.gen, .int .i64 s.epoch, .int .i64 s.pages, .int .i64 s.start, .int .i64 s.len, .int .i64 s.head, .int .i64 s.seq, .int .i64 at_, .int .i64 (sq + 1), .int .i64 us, .bool true, .bool nu] 77 :: tblA pt :: A :: R) w := H'
          clear H'
          refine s_end ?_
          refine k_seq ?_
          refine s_region ?_
          refine s_do rfl rfl rfl (d_move rfl rfl) ?_
          refine s_do rfl rfl rfl (d_assign rfl rfl) ?_
          refine s_end ?_
          refine k_ret ?_
          refine doneL rfl [.int .i64 11] ⟨rfl, trivial⟩ (v := .int .i64 11) rfl ?_
          subst hps
          exact ⟨_, .inr (.inr (.inr ⟨⟨by omega, by omega⟩, hrec, hroom, k, hk, .inr (.inr (.inl ⟨hbad1, rfl, rfl⟩))⟩)), H.perm 5 [2, 3, 0, 4] rfl rfl⟩
        · -- a case
          have H : Sep z (diskA pd (D.wr (s.start + at_).toNat (ps.take k)) :: grow 5 1 (.slice (some ⟨gb, 0, none⟩) ((1 + ims.length) * 256) gc) ((1 + ims.length) * 256) (ps.flatten.map u8) :: blk pl [.pointer (some ⟨pd, 0, none⟩), .pointer (some ⟨pt, 0, none⟩), .int .i64 s.gen, .int .i64 s.epoch, .int .i64 s.pages, .int .i64 s.start, .int .i64 s.len, .int .i64 s.head, .int .i64 s.seq, .int .i64 at_, .int .i64 sq, .int .i64 us, .bool br, .bool nu] 77 :: tblA pt :: A :: R) w := H'
          clear H'
          refine a_and (H.pick 5 [2] rfl) ?_
          refine a_do 18 rfl (by kernel_rfl) (by kernel_rfl) (by kernel_rfl) rfl rfl rfl (d_assign rfl rfl) (H.pick 5 [2] rfl) ?_
          refine a_done (by kernel_rfl) ?_
          refine k_seq ?_
          refine k_seq ?_
          refine s_region ?_
          refine s_do rfl rfl rfl (d_move rfl rfl) ?_
          refine s_do rfl rfl rfl (d_eql rfl rfl rfl) ?_
          refine k_updA 58 (u := .bool (decide ((0 : Int) = 0))) (v := .bool true) rfl (congrArg Value.bool (by decide)) ?_
          refine s_do rfl rfl rfl (d_move rfl rfl) ?_
          refine s_do rfl rfl rfl (d_move rfl rfl) ?_
          refine s_do rfl rfl rfl (d_move rfl rfl) ?_
          refine s_do rfl rfl rfl (d_len rfl (z := 1) (by kernel_rfl) rfl) ?_
          refine s_do rfl rfl rfl (d_lss rfl rfl rfl) ?_
          refine s_do rfl rfl rfl (d_pick_t rfl rfl rfl) ?_
          refine s_end ?_
          refine k_dec rfl (fun h3 => ?_) (fun h3 => ?_)
          · -- yes: ((k * 256 : Nat) : Int) < (((1 + ims.length) * 256 : Nat) : Int)
            have H' := H.pick 5 [2, 0, 1, 3, 4] rfl
            have H : Sep z (blk pl [.pointer (some ⟨pd, 0, none⟩), .pointer (some ⟨pt, 0, none⟩), .int .i64 s.gen, .int .i64 s.epoch, .int .i64 s.pages, .int .i64 s.start, .int .i64 s.len, .int .i64 s.head, .int .i64 s.seq, .int .i64 at_, .int .i64 sq, .int .i64 us, .bool br, .bool nu] 77 :: diskA pd (D.wr (s.start + at_).toNat (ps.take k)) :: grow 5 1 (.slice (some ⟨gb, 0, none⟩) ((1 + ims.length) * 256) gc) ((1 + ims.length) * 256) (ps.flatten.map u8) :: tblA pt :: A :: R) w := H'
            clear H'
            refine a_region (Sep z (blk pl [.pointer (some ⟨pd, 0, none⟩), .pointer (some ⟨pt, 0, none⟩), .int .i64 s.gen, .int .i64 s.epoch, .int .i64 s.pages, .int .i64 s.start, .int .i64 s.len, .int .i64 s.head, .int .i64 s.seq, .int .i64 at_, .int .i64 sq, .int .i64 us, .bool br, .bool nu] 77 :: R)) 14 rfl (by kernel_rfl) (fun w' x' _ => ?_)
            have H' := H.ext0 x'; clear x' H; revert H'; generalize w' = w; intro H'
            have H : Sep z (blk pl [.pointer (some ⟨pd, 0, none⟩), .pointer (some ⟨pt, 0, none⟩), .int .i64 s.gen, .int .i64 s.epoch, .int .i64 s.pages, .int .i64 s.start, .int .i64 s.len, .int .i64 s.head, .int .i64 s.seq, .int .i64 at_, .int .i64 sq, .int .i64 us, .bool br, .bool nu] 77 :: diskA pd (D.wr (s.start + at_).toNat (ps.take k)) :: grow 5 1 (.slice (some ⟨gb, 0, none⟩) ((1 + ims.length) * 256) gc) ((1 + ims.length) * 256) (ps.flatten.map u8) :: tblA pt :: A :: R) w := H'
            clear H'
            refine a_do 0 rfl (by kernel_rfl) (by kernel_rfl) (by kernel_rfl) rfl rfl rfl (d_move rfl rfl) (H.pick 5 [0] rfl) ?_
            refine a_do 1 rfl (by kernel_rfl) (by kernel_rfl) (by kernel_rfl) rfl rfl rfl (d_nilCheck rfl rfl) (H.pick 5 [0] rfl) ?_
            refine a_do 2 rfl (by kernel_rfl) (by kernel_rfl) (by kernel_rfl) rfl rfl rfl (d_field rfl (k := 0) (r := 0) (by kernel_rfl) rfl rfl) (H.pick 5 [0] rfl) ?_
            refine a_do 3 rfl (by kernel_rfl) (by kernel_rfl) (by kernel_rfl) rfl rfl rfl (d_load rfl rfl (by kernel_rfl) (fun _ hx => hx.cel 0 rfl 0 rfl)) (H.pick 5 [0] rfl) ?_
            refine a_do 4 rfl (by kernel_rfl) (by kernel_rfl) (by kernel_rfl) rfl rfl rfl (d_move rfl rfl) (H.pick 5 [0] rfl) ?_
            refine a_do 5 rfl (by kernel_rfl) (by kernel_rfl) (by kernel_rfl) rfl rfl rfl (d_nilCheck rfl rfl) (H.pick 5 [0] rfl) ?_
            refine a_do 6 rfl (by kernel_rfl) (by kernel_rfl) (by kernel_rfl) rfl rfl rfl (d_field rfl (k := 2) (r := 2) (by kernel_rfl) rfl rfl) (H.pick 5 [0] rfl) ?_
            refine a_do 7 rfl (by kernel_rfl) (by kernel_rfl) (by kernel_rfl) rfl rfl rfl (d_field rfl (k := 3) (r := 5) (by kernel_rfl) rfl rfl) (H.pick 5 [0] rfl) ?_
            refine a_do 8 rfl (by kernel_rfl) (by kernel_rfl) (by kernel_rfl) rfl rfl rfl (d_load rfl rfl (by kernel_rfl) (fun _ hx => hx.cel 0 rfl 5 rfl)) (H.pick 5 [0] rfl) ?_
            refine a_do 9 rfl (by kernel_rfl) (by kernel_rfl) (by kernel_rfl) rfl rfl rfl (d_move rfl rfl) (H.pick 5 [0] rfl) ?_
            refine a_do 10 rfl (by kernel_rfl) (by kernel_rfl) (by kernel_rfl) rfl rfl rfl (d_move rfl rfl) (H.pick 5 [0] rfl) ?_
            refine a_do 11 rfl (by kernel_rfl) (by kernel_rfl) (by kernel_rfl) rfl rfl rfl (d_sliceC rfl (z := 1) (p := (k * 256)) (q := ((1 + ims.length) * 256)) (o' := k * 256) (l' := ((1 + ims.length) * 256) - (k * 256)) (c' := gc - (k * 256)) (by kernel_rfl) rfl (.inr ⟨_, _, _, rfl, rfl, rfl⟩) (.inl ⟨rfl, rfl⟩) (by omega) (by omega) (by omega) (by omega) (by omega) (by omega)) (H.pick 5 [0] rfl) ?_
            refine a_all [12] (by kernel_rfl) (by simp) ?_
            refine all1 ?_
            refine o_callC rfl rfl rfl rfl rfl rfl (fun w => Tryz.call24 _ w) (writen_c _ _ _ _ _ _ _ (ps.drop k) _ (fun p hp => hp256 p (List.mem_of_mem_drop hp)) (by omega) (fun i => by have h1 := hver i; have h2 := Dsk.wr_len D (s.start + at_).toNat (ps.take k) i; omega) (by rw [hkd]; omega) (fun h q => by have := (grow.rdB q).cut (lo := k * 256) (m := (1 + ims.length) * 256 - k * 256) (c' := gc - k * 256) (by omega) (by omega) (by omega); rw [flat_drop hp256]; rwa [List.take_of_length_le (by rw [List.length_drop]; omega), Nat.zero_add] at this)) H 3 [1, 2, 0] rfl rfl ?_
            rintro _ w _ (⟨hn2, rfl, rfl⟩ | ⟨_, hbad2, rfl, rfl⟩ | ⟨_, hgood2, rfl, rfl⟩) H'
            · exact absurd ⟨by omega, by rw [Dsk.wr_n]; omega⟩ hn2
            · -- a case
              have H : Sep z (diskA pd ((D.wr (s.start + at_).toNat (ps.take k)).wf) :: grow 5 1 (.slice (some ⟨gb, 0, none⟩) ((1 + ims.length) * 256) gc) ((1 + ims.length) * 256) (ps.flatten.map u8) :: blk pl [.pointer (some ⟨pd, 0, none⟩), .pointer (some ⟨pt, 0, none⟩), .int .i64 s.gen, .int .i64 s.epoch, .int .i64 s.pages, .int .i64 s.start, .int .i64 s.len, .int .i64 s.head, .int .i64 s.seq, .int .i64 at_, .int .i64 sq, .int .i64 us, .bool br, .bool nu] 77 :: tblA pt :: A :: R) w := H'
              clear H'
              refine a_and (H.pick 5 [2] rfl) ?_
              refine a_do 13 rfl (by kernel_rfl) (by kernel_rfl) (by kernel_rfl) rfl rfl rfl (d_assign rfl rfl) (H.pick 5 [2] rfl) ?_
              refine a_done (by kernel_rfl) ?_
              refine k_seq ?_
              refine k_seq ?_
              refine s_region ?_
              refine s_do rfl rfl rfl (d_move rfl rfl) ?_
              refine s_do rfl rfl rfl (d_neq rfl rfl rfl) ?_
              refine k_updA 79 (u := .bool (decide ((11 : Int) ≠ 0))) (v := .bool true) rfl (congrArg Value.bool (by decide)) ?_
              refine s_end ?_
              refine k_true rfl ?_
              refine k_seq ?_
              refine s_region ?_
              refine s_do rfl rfl rfl (d_move rfl rfl) ?_
              refine s_do rfl rfl rfl (d_nilCheck rfl rfl) ?_
              refine s_do rfl rfl rfl (d_field rfl (k := 10) (r := 10) (by kernel_rfl) rfl rfl) ?_
              refine s_do rfl rfl rfl (d_load rfl rfl (by kernel_rfl) (here (H.cel 2 rfl 10 rfl))) ?_
              refine s_do rfl rfl rfl (d_add64 rfl rfl rfl (r := sq + 1) (by omega) (by omega)) ?_
              refine s_do rfl rfl rfl (d_nilCheck rfl rfl) ?_
              refine s_do rfl rfl rfl (d_field rfl (k := 10) (r := 10) (by kernel_rfl) rfl rfl) ?_
              refine s_put rfl rfl (n_store 2 H rfl rfl rfl rfl (vs := [.int .i64 (sq + 1)]) rfl (by simp [u8, u32, Value.oneCell']) (by kernel_rfl) (by simp) (out := [.pointer (some ⟨pd, 0, none⟩), .pointer (some ⟨pt, 0, none⟩), .int .i64 s.gen, .int .i64 s.epoch, .int .i64 s.pages, .int .i64 s.start, .int .i64 s.len, .int .i64 s.head, .int .i64 s.seq, .int .i64 at_, .int .i64 (sq + 1), .int .i64 us, .bool br, .bool nu]) rfl) ?_
              rintro w H'
              have H : Sep z (diskA pd ((D.wr (s.start + at_).toNat (ps.take k)).wf) :: grow 5 1 (.slice (some ⟨gb, 0, none⟩) ((1 + ims.length) * 256) gc) ((1 + ims.length) * 256) (ps.flatten.map u8) :: blk pl [.pointer (some ⟨pd, 0, none⟩), .pointer (some ⟨pt, 0, none⟩), .int .i64 s.gen, .int .i64 s.epoch, .int .i64 s.pages, .int .i64 s.start, .int .i64 s.len, .int .i64 s.head, .int .i64 s.seq, .int .i64 at_, .int .i64 (sq + 1), .int .i64 us, .bool br, .bool nu] 77 :: tblA pt :: A :: R) w := H'
              clear H'
              refine s_end ?_
              refine k_seq ?_
              refine s_region ?_
              refine s_do rfl rfl rfl (d_move rfl rfl) ?_
              refine s_do rfl rfl rfl (d_nilCheck rfl rfl) ?_
              refine s_do rfl rfl rfl (d_field rfl (k := 12) (r := 12) (by kernel_rfl) rfl rfl) ?_
              refine s_put rfl rfl (n_store 2 H rfl rfl rfl rfl (vs := [.bool true]) rfl (by simp [u8, u32, Value.oneCell']) (by kernel_rfl) (by simp) (out := [.pointer (some ⟨pd, 0, none⟩), .pointer (some ⟨pt, 0, none⟩), .int .i64 s.gen, .int .i64 s.epoch, .int .i64 s.pages, .int .i64 s.start, .int .i64 s.len, .int .i64 s.head, .int .i64 s.seq, .int .i64 at_, .int .i64 (sq + 1), .int .i64 us, .bool true, .bool nu]) rfl) ?_
              rintro w H'
              have H : Sep z (diskA pd ((D.wr (s.start + at_).toNat (ps.take k)).wf) :: grow 5 1 (.slice (some ⟨gb, 0, none⟩) ((1 + ims.length) * 256) gc) ((1 + ims.length) * 256) (ps.flatten.map u8) :: blk pl [.pointer (some ⟨pd, 0, none⟩), .pointer (some ⟨pt, 0, none⟩), .int .i64 s.gen, .int .i64 s.epoch, .int .i64 s.pages, .int .i64 s.start, .int .i64 s.len, .int .i64 s.head, .int .i64 s.seq, .int .i64 at_, .int .i64 (sq + 1), .int .i64 us, .bool true, .bool nu] 77 :: tblA pt :: A :: R) w := H'
              clear H'
              refine s_end ?_
              refine k_seq ?_
              refine s_region ?_
              refine s_do rfl rfl rfl (d_move rfl rfl) ?_
              refine s_do rfl rfl rfl (d_assign rfl rfl) ?_
              refine s_end ?_
              refine k_ret ?_
              refine doneL rfl [.int .i64 11] ⟨rfl, trivial⟩ (v := .int .i64 11) rfl ?_
              subst hps
              exact ⟨_, .inr (.inr (.inr ⟨⟨by omega, by omega⟩, hrec, hroom, k, hk, .inr (.inr (.inr ⟨hgood1, by omega, hbad2, rfl, rfl⟩))⟩)), H.perm 5 [2, 3, 0, 4] rfl rfl⟩
            · -- a case
              have H : Sep z (diskA pd ((D.wr (s.start + at_).toNat (ps.take k)).wr (s.start).toNat (ps.drop k)) :: grow 5 1 (.slice (some ⟨gb, 0, none⟩) ((1 + ims.length) * 256) gc) ((1 + ims.length) * 256) (ps.flatten.map u8) :: blk pl [.pointer (some ⟨pd, 0, none⟩), .pointer (some ⟨pt, 0, none⟩), .int .i64 s.gen, .int .i64 s.epoch, .int .i64 s.pages, .int .i64 s.start, .int .i64 s.len, .int .i64 s.head, .int .i64 s.seq, .int .i64 at_, .int .i64 sq, .int .i64 us, .bool br, .bool nu] 77 :: tblA pt :: A :: R) w := H'
              clear H'
              refine a_and (H.pick 5 [2] rfl) ?_
              refine a_do 13 rfl (by kernel_rfl) (by kernel_rfl) (by kernel_rfl) rfl rfl rfl (d_assign rfl rfl) (H.pick 5 [2] rfl) ?_
              refine a_done (by kernel_rfl) ?_
              refine k_seq ?_
              refine k_seq ?_
              refine s_region ?_
              refine s_do rfl rfl rfl (d_move rfl rfl) ?_
              refine s_do rfl rfl rfl (d_neq rfl rfl rfl) ?_
              refine k_updA 79 (u := .bool (decide ((0 : Int) ≠ 0))) (v := .bool false) rfl (congrArg Value.bool (by decide)) ?_
              refine s_end ?_
              refine k_false rfl ?_
              refine k_skip ?_
              refine k_seq ?_
              refine s_region ?_
              refine s_do rfl rfl rfl (d_move rfl rfl) ?_
              refine s_do rfl rfl rfl (d_move rfl rfl) ?_
              refine s_do rfl rfl rfl (d_len rfl (z := 3) (by kernel_rfl) rfl) ?_
              refine s_do rfl rfl rfl (d_add64 rfl rfl rfl (r := 1 + (ims.length : Int)) (by omega) (by omega)) ?_
              refine s_callC rfl rfl rfl rfl rfl (fun w => Tryz.call25 _ w) (passed_c _ _ _ _ _ _ _ _ _ _ (by omega) (by omega) (by omega) (by omega) (by omega)) H 3 [2, 0, 1] rfl rfl ?_
              rintro _ w _ ⟨rfl, rfl⟩ H'
              have H : Sep z (blk pl [.pointer (some ⟨pd, 0, none⟩), .pointer (some ⟨pt, 0, none⟩), .int .i64 s.gen, .int .i64 s.epoch, .int .i64 s.pages, .int .i64 s.start, .int .i64 s.len, .int .i64 s.head, .int .i64 s.seq, .int .i64 ((at_ + (1 + (ims.length : Int))) % s.len), .int .i64 (sq + 1), .int .i64 (us + (1 + (ims.length : Int))), .bool br, .bool nu] 77 :: diskA pd ((D.wr (s.start + at_).toNat (ps.take k)).wr (s.start).toNat (ps.drop k)) :: grow 5 1 (.slice (some ⟨gb, 0, none⟩) ((1 + ims.length) * 256) gc) ((1 + ims.length) * 256) (ps.flatten.map u8) :: tblA pt :: A :: R) w := H'
              clear H'
              refine s_end ?_
              refine k_seq ?_
              refine s_region ?_
              refine s_do rfl rfl rfl (d_assign rfl rfl) ?_
              refine s_end ?_
              refine k_ret ?_
              refine doneL rfl [.int .i64 0] ⟨rfl, trivial⟩ (v := .int .i64 0) rfl ?_
              subst hps
              exact ⟨_, .inr (.inr (.inr ⟨⟨by omega, by omega⟩, hrec, hroom, k, hk, .inr (.inl ⟨hgood1, by omega, hgood2, rfl, rfl⟩)⟩)), H.perm 5 [0, 3, 1, 4] rfl rfl⟩
          · -- no: ((k * 256 : Nat) : Int) < (((1 + ims.length) * 256 : Nat) : Int)
            refine k_skip ?_
            refine k_seq ?_
            refine k_seq ?_
            refine s_region ?_
            refine s_do rfl rfl rfl (d_move rfl rfl) ?_
            refine s_do rfl rfl rfl (d_neq rfl rfl rfl) ?_
            refine k_updA 79 (u := .bool (decide ((0 : Int) ≠ 0))) (v := .bool false) rfl (congrArg Value.bool (by decide)) ?_
            refine s_end ?_
            refine k_false rfl ?_
            refine k_skip ?_
            refine k_seq ?_
            refine s_region ?_
            refine s_do rfl rfl rfl (d_move rfl rfl) ?_
            refine s_do rfl rfl rfl (d_move rfl rfl) ?_
            refine s_do rfl rfl rfl (d_len rfl (z := 3) (by kernel_rfl) rfl) ?_
            refine s_do rfl rfl rfl (d_add64 rfl rfl rfl (r := 1 + (ims.length : Int)) (by omega) (by omega)) ?_
            refine s_callC rfl rfl rfl rfl rfl (fun w => Tryz.call25 _ w) (passed_c _ _ _ _ _ _ _ _ _ _ (by omega) (by omega) (by omega) (by omega) (by omega)) H 3 [2, 0, 1] rfl rfl ?_
            rintro _ w _ ⟨rfl, rfl⟩ H'
            have H : Sep z (blk pl [.pointer (some ⟨pd, 0, none⟩), .pointer (some ⟨pt, 0, none⟩), .int .i64 s.gen, .int .i64 s.epoch, .int .i64 s.pages, .int .i64 s.start, .int .i64 s.len, .int .i64 s.head, .int .i64 s.seq, .int .i64 ((at_ + (1 + (ims.length : Int))) % s.len), .int .i64 (sq + 1), .int .i64 (us + (1 + (ims.length : Int))), .bool br, .bool nu] 77 :: diskA pd (D.wr (s.start + at_).toNat (ps.take k)) :: grow 5 1 (.slice (some ⟨gb, 0, none⟩) ((1 + ims.length) * 256) gc) ((1 + ims.length) * 256) (ps.flatten.map u8) :: tblA pt :: A :: R) w := H'
            clear H'
            refine s_end ?_
            refine k_seq ?_
            refine s_region ?_
            refine s_do rfl rfl rfl (d_assign rfl rfl) ?_
            refine s_end ?_
            refine k_ret ?_
            refine doneL rfl [.int .i64 0] ⟨rfl, trivial⟩ (v := .int .i64 0) rfl ?_
            subst hps
            exact ⟨_, .inr (.inr (.inr ⟨⟨by omega, by omega⟩, hrec, hroom, k, hk, .inl ⟨hgood1, by omega, rfl, rfl⟩⟩)), H.perm 5 [0, 3, 1, 4] rfl rfl⟩
end Go.Proofs.YtanejicgmgpjcaaGreatDoor
