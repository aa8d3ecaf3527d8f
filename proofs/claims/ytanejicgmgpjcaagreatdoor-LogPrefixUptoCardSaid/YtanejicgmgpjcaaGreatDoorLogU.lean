/-
  Walks: a record made. No condition.
-/
import Derived.Test.YtanejicgmgpjcaaGreatDoorLogT
set_option maxRecDepth 100000
namespace Go.Proofs.YtanejicgmgpjcaaGreatDoor
open Go.RowKit
set_option maxHeartbeats 1000000 in
theorem record_c (pl pd pt : Nat) (s : Sup) (at_ sq us : Int) (br nu : Bool) (v : Value) (ims : List Img) (A : Asn) (hA : ∀ h, A h → imgsH v ims h) (hnu : nu = decide (s.epoch < 4294967296)) (hep0 : 0 ≤ s.epoch ∧ s.epoch ≤ 1099511627776) (hsq : 0 ≤ sq ∧ sq ≤ 2199023255552) (hlen : 1 ≤ ims.length ∧ ims.length ≤ 40) (hsl : 0 ≤ s.len ∧ s.len ≤ 1099511627776) (hu : 0 ≤ us ∧ us ≤ 2199023255552) : Cn Tryz.prog 23 [.pointer (some ⟨pl, 0, none⟩), v] [blk pl [.pointer (some ⟨pd, 0, none⟩), .pointer (some ⟨pt, 0, none⟩), .int .i64 s.gen, .int .i64 s.epoch, .int .i64 s.pages, .int .i64 s.start, .int .i64 s.len, .int .i64 s.head, .int .i64 s.seq, .int .i64 at_, .int .i64 sq, .int .i64 us, .bool br, .bool nu] 77, tblA pt, A] (fun v Γ => (¬ recOK ims ∧ v = .tuple #[.slice none 0 0, .int .i64 1] ∧ Γ = [blk pl [.pointer (some ⟨pd, 0, none⟩), .pointer (some ⟨pt, 0, none⟩), .int .i64 s.gen, .int .i64 s.epoch, .int .i64 s.pages, .int .i64 s.start, .int .i64 s.len, .int .i64 s.head, .int .i64 s.seq, .int .i64 at_, .int .i64 sq, .int .i64 us, .bool br, .bool nu] 77, tblA pt, A]) ∨ (recOK ims ∧ ¬ (1 + (ims.length : Int) ≤ (if br then 0 else s.len - us) ∧ nu = true ∧ sq < 1099511627776) ∧ v = .tuple #[.slice none 0 0, .int .i64 15] ∧ Γ = [blk pl [.pointer (some ⟨pd, 0, none⟩), .pointer (some ⟨pt, 0, none⟩), .int .i64 s.gen, .int .i64 s.epoch, .int .i64 s.pages, .int .i64 s.start, .int .i64 s.len, .int .i64 s.head, .int .i64 s.seq, .int .i64 at_, .int .i64 sq, .int .i64 us, .bool br, .bool nu] 77, tblA pt, A]) ∨ (recOK ims ∧ (1 + (ims.length : Int) ≤ (if br then 0 else s.len - us) ∧ nu = true ∧ sq < 1099511627776) ∧ ∃ v', v = .tuple #[v', .int .i64 0] ∧ Γ = [grow 5 1 v' ((1 + ims.length) * 256) ((recB s.epoch sq ims).flatten.map u8), blk pl [.pointer (some ⟨pd, 0, none⟩), .pointer (some ⟨pt, 0, none⟩), .int .i64 s.gen, .int .i64 s.epoch, .int .i64 s.pages, .int .i64 s.start, .int .i64 s.len, .int .i64 s.head, .int .i64 s.seq, .int .i64 at_, .int .i64 sq, .int .i64 us, .bool br, .bool nu] 77, tblA pt, A])) := by
  intro z R w H'
  have H : Sep z (blk pl [.pointer (some ⟨pd, 0, none⟩), .pointer (some ⟨pt, 0, none⟩), .int .i64 s.gen, .int .i64 s.epoch, .int .i64 s.pages, .int .i64 s.start, .int .i64 s.len, .int .i64 s.head, .int .i64 s.seq, .int .i64 at_, .int .i64 sq, .int .i64 us, .bool br, .bool nu] 77 :: tblA pt :: A :: R) w := H'
  clear H'
  obtain ⟨ao, ic, rfl⟩ := H.says 2 rfl (fun h q => (hA h q).slc)
  obtain ⟨es, hes, H'⟩ := Sep.imA 2 H rfl hA
  clear H
  have hel : es.length = ims.length := by rw [← hes]; simp
  have H : Sep z (blk pl [.pointer (some ⟨pd, 0, none⟩), .pointer (some ⟨pt, 0, none⟩), .int .i64 s.gen, .int .i64 s.epoch, .int .i64 s.pages, .int .i64 s.start, .int .i64 s.len, .int .i64 s.head, .int .i64 s.seq, .int .i64 at_, .int .i64 sq, .int .i64 us, .bool br, .bool nu] 77 :: tblA pt :: imA A (.slice ao ims.length ic) es :: R) w := H'
  clear H'
  refine enter Tryz.func23 rfl 130 Tryz.ntmps23 rfl ?_
  refine k_seq ?_
  refine s_region ?_
  refine s_do rfl rfl rfl (d_assign rfl rfl) ?_
  refine s_do rfl rfl rfl (d_assign rfl rfl) ?_
  refine s_end ?_
  refine k_seq ?_
  refine s_region ?_
  refine s_do rfl rfl rfl (d_assign rfl rfl) ?_
  refine s_end ?_
  refine k_seq ?_
  refine s_region ?_
  refine s_go rfl rfl rfl (n_makeMap H rfl) ?_
  rintro _ w ⟨m1, rfl, H'⟩
  have H : Sep z (mapB m1 ([]) 0 :: blk pl [.pointer (some ⟨pd, 0, none⟩), .pointer (some ⟨pt, 0, none⟩), .int .i64 s.gen, .int .i64 s.epoch, .int .i64 s.pages, .int .i64 s.start, .int .i64 s.len, .int .i64 s.head, .int .i64 s.seq, .int .i64 at_, .int .i64 sq, .int .i64 us, .bool br, .bool nu] 77 :: tblA pt :: imA A (.slice ao ims.length ic) es :: R) w := H'
  clear H'
  refine s_do rfl rfl rfl (d_assign rfl rfl) ?_
  refine s_end ?_
  refine k_seq ?_
  have H' := H.pick 4 [1, 0, 2, 3] rfl
  have H : Sep z (blk pl [.pointer (some ⟨pd, 0, none⟩), .pointer (some ⟨pt, 0, none⟩), .int .i64 s.gen, .int .i64 s.epoch, .int .i64 s.pages, .int .i64 s.start, .int .i64 s.len, .int .i64 s.head, .int .i64 s.seq, .int .i64 at_, .int .i64 sq, .int .i64 us, .bool br, .bool nu] 77 :: mapB m1 ([]) 0 :: tblA pt :: imA A (.slice ao ims.length ic) es :: R) w := H'
  clear H'
  refine a_region (Sep z (blk pl [.pointer (some ⟨pd, 0, none⟩), .pointer (some ⟨pt, 0, none⟩), .int .i64 s.gen, .int .i64 s.epoch, .int .i64 s.pages, .int .i64 s.start, .int .i64 s.len, .int .i64 s.head, .int .i64 s.seq, .int .i64 at_, .int .i64 sq, .int .i64 us, .bool br, .bool nu] 77 :: R)) 12 rfl (by kernel_rfl) (fun w' x' _ => ?_)
  have H' := H.ext0 x'; clear x' H; revert H'; generalize w' = w; intro H'
  have H : Sep z (blk pl [.pointer (some ⟨pd, 0, none⟩), .pointer (some ⟨pt, 0, none⟩), .int .i64 s.gen, .int .i64 s.epoch, .int .i64 s.pages, .int .i64 s.start, .int .i64 s.len, .int .i64 s.head, .int .i64 s.seq, .int .i64 at_, .int .i64 sq, .int .i64 us, .bool br, .bool nu] 77 :: mapB m1 ([]) 0 :: tblA pt :: imA A (.slice ao ims.length ic) es :: R) w := H'
  clear H'
  refine a_do 0 rfl (by kernel_rfl) (by kernel_rfl) (by kernel_rfl) rfl rfl rfl (d_move rfl rfl) (H.pick 4 [0] rfl) ?_
  refine a_do 1 rfl (by kernel_rfl) (by kernel_rfl) (by kernel_rfl) rfl rfl rfl (d_nilCheck rfl rfl) (H.pick 4 [0] rfl) ?_
  refine a_do 2 rfl (by kernel_rfl) (by kernel_rfl) (by kernel_rfl) rfl rfl rfl (d_field rfl (k := 2) (r := 2) (by kernel_rfl) rfl rfl) (H.pick 4 [0] rfl) ?_
  refine a_do 3 rfl (by kernel_rfl) (by kernel_rfl) (by kernel_rfl) rfl rfl rfl (d_field rfl (k := 1) (r := 3) (by kernel_rfl) rfl rfl) (H.pick 4 [0] rfl) ?_
  refine a_do 4 rfl (by kernel_rfl) (by kernel_rfl) (by kernel_rfl) rfl rfl rfl (d_load rfl rfl (by kernel_rfl) (fun _ hx => hx.cel 0 rfl 3 rfl)) (H.pick 4 [0] rfl) ?_
  refine a_do 5 rfl (by kernel_rfl) (by kernel_rfl) (by kernel_rfl) rfl rfl rfl (d_move rfl rfl) (H.pick 4 [0] rfl) ?_
  refine a_do 6 rfl (by kernel_rfl) (by kernel_rfl) (by kernel_rfl) rfl rfl rfl (d_nilCheck rfl rfl) (H.pick 4 [0] rfl) ?_
  refine a_do 7 rfl (by kernel_rfl) (by kernel_rfl) (by kernel_rfl) rfl rfl rfl (d_field rfl (k := 10) (r := 10) (by kernel_rfl) rfl rfl) (H.pick 4 [0] rfl) ?_
  refine a_do 8 rfl (by kernel_rfl) (by kernel_rfl) (by kernel_rfl) rfl rfl rfl (d_load rfl rfl (by kernel_rfl) (fun _ hx => hx.cel 0 rfl 10 rfl)) (H.pick 4 [0] rfl) ?_
  refine a_do 9 rfl (by kernel_rfl) (by kernel_rfl) (by kernel_rfl) rfl rfl rfl (d_build rfl rfl (out := [.int .i64 s.epoch, .int .i64 sq, .slice none 0 0, u32 0]) (by kernel_rfl)) (H.pick 4 [0] rfl) ?_
  refine a_all [10] (by kernel_rfl) (by simp) ?_
  refine all1 ?_
  refine o_go rfl rfl rfl rfl (n_alloc (P := Tryz.prog) H rfl (zs := [.int .i64 0, .int .i64 0, .slice none 0 0, u32 0]) (by kernel_rfl)) ?_
  rintro _ w ⟨b2, rfl, H'⟩
  have H : Sep z (blk b2 [.int .i64 0, .int .i64 0, .slice none 0 0, u32 0] 100 :: blk pl [.pointer (some ⟨pd, 0, none⟩), .pointer (some ⟨pt, 0, none⟩), .int .i64 s.gen, .int .i64 s.epoch, .int .i64 s.pages, .int .i64 s.start, .int .i64 s.len, .int .i64 s.head, .int .i64 s.seq, .int .i64 at_, .int .i64 sq, .int .i64 us, .bool br, .bool nu] 77 :: mapB m1 ([]) 0 :: tblA pt :: imA A (.slice ao ims.length ic) es :: R) w := H'
  clear H'
  refine a_and (H.pick 5 [1] rfl) ?_
  refine a_all [11] (by kernel_rfl) (by simp) ?_
  refine all1 ?_
  refine o_put rfl rfl rfl (n_store 0 H rfl rfl rfl rfl (vs := [.int .i64 s.epoch, .int .i64 sq, .slice none 0 0, u32 0]) rfl (by simp [u8, u32, Value.oneCell']) (by kernel_rfl) (by simp) (out := [.int .i64 s.epoch, .int .i64 sq, .slice none 0 0, u32 0]) rfl) ?_
  rintro w H'
  have H : Sep z (blk b2 [.int .i64 s.epoch, .int .i64 sq, .slice none 0 0, u32 0] 100 :: blk pl [.pointer (some ⟨pd, 0, none⟩), .pointer (some ⟨pt, 0, none⟩), .int .i64 s.gen, .int .i64 s.epoch, .int .i64 s.pages, .int .i64 s.start, .int .i64 s.len, .int .i64 s.head, .int .i64 s.seq, .int .i64 at_, .int .i64 sq, .int .i64 us, .bool br, .bool nu] 77 :: mapB m1 ([]) 0 :: tblA pt :: imA A (.slice ao ims.length ic) es :: R) w := H'
  clear H'
  refine a_and (H.pick 5 [1] rfl) ?_
  refine a_done (by kernel_rfl) ?_
  refine k_seq ?_
  refine k_seq ?_
  refine s_region ?_
  refine s_do rfl rfl rfl (d_move rfl rfl) ?_
  refine s_do rfl rfl rfl (d_len rfl (z := 3) (by kernel_rfl) rfl) ?_
  refine s_do rfl rfl rfl (d_move rfl rfl) ?_
  refine s_end ?_
  have H' := H.nilg 3 1
  have H : Sep z (grow 3 1 (.slice none 0 0) 0 [] :: blk b2 [.int .i64 s.epoch, .int .i64 sq, .slice none 0 0, u32 0] 100 :: blk pl [.pointer (some ⟨pd, 0, none⟩), .pointer (some ⟨pt, 0, none⟩), .int .i64 s.gen, .int .i64 s.epoch, .int .i64 s.pages, .int .i64 s.start, .int .i64 s.len, .int .i64 s.head, .int .i64 s.seq, .int .i64 at_, .int .i64 sq, .int .i64 us, .bool br, .bool nu] 77 :: mapB m1 ([]) 0 :: tblA pt :: imA A (.slice ao ims.length ic) es :: R) w := H'
  clear H'
  refine k_block ?_
  refine c_loop (σ := Nat × Value) (fun ⟨i, v1⟩ => [(32, .int .i64 (i : Int)), (0, .pointer (some ⟨pl, 0, none⟩)), (1, .slice ao ims.length ic), (6, .slice none 0 0), (7, .map (some m1)), (8, .pointer (some ⟨b2, 0, none⟩)), (30, .slice ao ims.length ic), (31, .int .i64 (ims.length : Int))])
    (fun ⟨i, v1⟩ w => Sep z (grow 3 1 v1 i (nsC (ims.take i)) :: blk b2 [.int .i64 s.epoch, .int .i64 sq, v1, u32 0] 100 :: blk pl [.pointer (some ⟨pd, 0, none⟩), .pointer (some ⟨pt, 0, none⟩), .int .i64 s.gen, .int .i64 s.epoch, .int .i64 s.pages, .int .i64 s.start, .int .i64 s.len, .int .i64 s.head, .int .i64 s.seq, .int .i64 at_, .int .i64 sq, .int .i64 us, .bool br, .bool nu] 77 :: mapB m1 (seen ((ims.take i).map Img.num)) (((ims.take i).map Img.num).length) :: tblA pt :: imA A (.slice ao ims.length ic) es :: R) w ∧ (i ≤ ims.length ∧ (∀ (j : Nat) (m : Img), j < i → ims[j]? = some m → m.Ok) ∧ ((ims.take i).map Img.num).Nodup)) (fun ⟨i, v1⟩ => ims.length - i) ⟨0, .slice none 0 0⟩
    (fun _ hF => (hF.cons (hF.cons (hF.cons (hF.cons (hF.cons (hF.cons (hF.cons (hF.cons hF.nil 31 _ _ rfl rfl) 30 _ _ rfl rfl) 8 _ _ rfl rfl) 7 _ _ rfl rfl) 6 _ _ rfl rfl) 1 _ _ rfl rfl) 0 _ _ rfl rfl) 32 _ _ rfl (by go_num))) ⟨H, by omega, fun j m h => by omega, by simp⟩ ?_
  clear H; rintro ⟨i, v1⟩ w ⟨H', hI⟩
  dsimp only at hI H' ⊢
  have H : Sep z (grow 3 1 v1 i (nsC (ims.take i)) :: blk b2 [.int .i64 s.epoch, .int .i64 sq, v1, u32 0] 100 :: blk pl [.pointer (some ⟨pd, 0, none⟩), .pointer (some ⟨pt, 0, none⟩), .int .i64 s.gen, .int .i64 s.epoch, .int .i64 s.pages, .int .i64 s.start, .int .i64 s.len, .int .i64 s.head, .int .i64 s.seq, .int .i64 at_, .int .i64 sq, .int .i64 us, .bool br, .bool nu] 77 :: mapB m1 (seen ((ims.take i).map Img.num)) (((ims.take i).map Img.num).length) :: tblA pt :: imA A (.slice ao ims.length ic) es :: R) w := H'
  clear H'
  have sv1 := H.says 0 rfl (fun h q => q.slc)
  obtain ⟨hin, hall, hnd⟩ := hI
  refine k_seq ?_
  refine s_region ?_
  refine s_do rfl rfl rfl (d_lss rfl rfl rfl) ?_
  refine s_end ?_
  refine k_seq ?_
  refine k_dec rfl (fun h1 => ?_) (fun h1 => ?_)
  · -- yes: (i : Int) < (ims.length : Int)
    have hlt : i < ims.length := by omega
    refine k_skip ?_
    refine k_seq ?_
    refine k_block ?_
    refine k_seq ?_
    refine s_region ?_
    obtain ⟨⟨im, bv⟩, he⟩ : ∃ e : ImE, es[i]? = some e := ⟨_, List.getElem?_eq_getElem (by omega)⟩
    have him : ims[i]? = some im := by rw [← hes]; simp [he]
    have sbv : Slc bv im.body.length := H.says 5 rfl (fun h q => (q.2.2 _ (List.mem_of_getElem? he)).slc)
    have hati := imA.at 5 H rfl he
    have hat := hati 0 (.int .i64 im.num) rfl
    refine s_do rfl rfl rfl (d_indexE rfl (z := 3) (j := i) (r := i * 3) (by kernel_rfl) rfl rfl rfl (by omega) hat (by omega)) ?_
    refine s_do rfl rfl rfl (d_loadAggE rfl rfl (vs := [.int .i64 im.num, .int .i64 im.kind, bv]) (by kernel_rfl) (by simp) (here hati)) ?_
    refine s_go rfl rfl rfl (n_alloc (P := Tryz.prog) H rfl (zs := [.int .i64 0, .int .i64 0, .slice none 0 0]) (by kernel_rfl)) ?_
    rintro _ w ⟨b3, rfl, H'⟩
    have H : Sep z (blk b3 [.int .i64 0, .int .i64 0, .slice none 0 0] 85 :: grow 3 1 v1 i (nsC (ims.take i)) :: blk b2 [.int .i64 s.epoch, .int .i64 sq, v1, u32 0] 100 :: blk pl [.pointer (some ⟨pd, 0, none⟩), .pointer (some ⟨pt, 0, none⟩), .int .i64 s.gen, .int .i64 s.epoch, .int .i64 s.pages, .int .i64 s.start, .int .i64 s.len, .int .i64 s.head, .int .i64 s.seq, .int .i64 at_, .int .i64 sq, .int .i64 us, .bool br, .bool nu] 77 :: mapB m1 (seen ((ims.take i).map Img.num)) (((ims.take i).map Img.num).length) :: tblA pt :: imA A (.slice ao ims.length ic) es :: R) w := H'
    clear H'
    refine s_put rfl rfl (n_store 0 H rfl rfl rfl rfl (vs := [.int .i64 im.num, .int .i64 im.kind, bv]) rfl (one_cons rfl (one_cons rfl (one_cons sbv.one one_nil))) (by kernel_rfl) (by simp) (out := [.int .i64 im.num, .int .i64 im.kind, bv]) rfl) ?_
    rintro w H'
    have H : Sep z (blk b3 [.int .i64 im.num, .int .i64 im.kind, bv] 85 :: grow 3 1 v1 i (nsC (ims.take i)) :: blk b2 [.int .i64 s.epoch, .int .i64 sq, v1, u32 0] 100 :: blk pl [.pointer (some ⟨pd, 0, none⟩), .pointer (some ⟨pt, 0, none⟩), .int .i64 s.gen, .int .i64 s.epoch, .int .i64 s.pages, .int .i64 s.start, .int .i64 s.len, .int .i64 s.head, .int .i64 s.seq, .int .i64 at_, .int .i64 sq, .int .i64 us, .bool br, .bool nu] 77 :: mapB m1 (seen ((ims.take i).map Img.num)) (((ims.take i).map Img.num).length) :: tblA pt :: imA A (.slice ao ims.length ic) es :: R) w := H'
    clear H'
    refine s_end ?_
    refine k_seq ?_
    refine k_seq ?_
    have H' := H.pick 7 [3, 0, 1, 2, 4, 5, 6] rfl
    have H : Sep z (blk pl [.pointer (some ⟨pd, 0, none⟩), .pointer (some ⟨pt, 0, none⟩), .int .i64 s.gen, .int .i64 s.epoch, .int .i64 s.pages, .int .i64 s.start, .int .i64 s.len, .int .i64 s.head, .int .i64 s.seq, .int .i64 at_, .int .i64 sq, .int .i64 us, .bool br, .bool nu] 77 :: blk b3 [.int .i64 im.num, .int .i64 im.kind, bv] 85 :: grow 3 1 v1 i (nsC (ims.take i)) :: blk b2 [.int .i64 s.epoch, .int .i64 sq, v1, u32 0] 100 :: mapB m1 (seen ((ims.take i).map Img.num)) (((ims.take i).map Img.num).length) :: tblA pt :: imA A (.slice ao ims.length ic) es :: R) w := H'
    clear H'
    refine a_region (Sep z (blk pl [.pointer (some ⟨pd, 0, none⟩), .pointer (some ⟨pt, 0, none⟩), .int .i64 s.gen, .int .i64 s.epoch, .int .i64 s.pages, .int .i64 s.start, .int .i64 s.len, .int .i64 s.head, .int .i64 s.seq, .int .i64 at_, .int .i64 sq, .int .i64 us, .bool br, .bool nu] 77 :: blk b3 [.int .i64 im.num, .int .i64 im.kind, bv] 85 :: R)) 11 rfl (by kernel_rfl) (fun w' x' _ => ?_)
    have H' := H.ext0 x'; clear x' H; revert H'; generalize w' = w; intro H'
    have H : Sep z (blk pl [.pointer (some ⟨pd, 0, none⟩), .pointer (some ⟨pt, 0, none⟩), .int .i64 s.gen, .int .i64 s.epoch, .int .i64 s.pages, .int .i64 s.start, .int .i64 s.len, .int .i64 s.head, .int .i64 s.seq, .int .i64 at_, .int .i64 sq, .int .i64 us, .bool br, .bool nu] 77 :: blk b3 [.int .i64 im.num, .int .i64 im.kind, bv] 85 :: grow 3 1 v1 i (nsC (ims.take i)) :: blk b2 [.int .i64 s.epoch, .int .i64 sq, v1, u32 0] 100 :: mapB m1 (seen ((ims.take i).map Img.num)) (((ims.take i).map Img.num).length) :: tblA pt :: imA A (.slice ao ims.length ic) es :: R) w := H'
    clear H'
    refine a_do 0 rfl (by kernel_rfl) (by kernel_rfl) (by kernel_rfl) rfl rfl rfl (d_move rfl rfl) (H.pick 7 [0, 1] rfl) ?_
    refine a_do 1 rfl (by kernel_rfl) (by kernel_rfl) (by kernel_rfl) rfl rfl rfl (d_nilCheck rfl rfl) (H.pick 7 [0, 1] rfl) ?_
    refine a_do 2 rfl (by kernel_rfl) (by kernel_rfl) (by kernel_rfl) rfl rfl rfl (d_field rfl (k := 1) (r := 1) (by kernel_rfl) rfl rfl) (H.pick 7 [0, 1] rfl) ?_
    refine a_do 3 rfl (by kernel_rfl) (by kernel_rfl) (by kernel_rfl) rfl rfl rfl (d_load rfl rfl (by kernel_rfl) (fun _ hx => hx.cel 0 rfl 1 rfl)) (H.pick 7 [0, 1] rfl) ?_
    refine a_do 4 rfl (by kernel_rfl) (by kernel_rfl) (by kernel_rfl) rfl rfl rfl (d_loadAgg rfl rfl (vs := [.int .i64 im.num, .int .i64 im.kind, bv]) (by kernel_rfl) (fun _ hx => (hx.blk 1 rfl).part 0 3 _ rfl)) (H.pick 7 [0, 1] rfl) ?_
    refine a_all [5] (by kernel_rfl) (by simp) ?_
    refine all1 ?_
    refine o_callC rfl rfl rfl rfl rfl rfl (fun w => Tryz.call33 _ w) (putPage_c _ _ _ _ im.body _ (fun h q => q.2.2 _ (List.mem_of_getElem? he))) H 7 [5, 6, 0, 1, 2, 3, 4] rfl rfl ?_
    rintro _ w _ (⟨hbad, rfl, rfl⟩ | ⟨hgood, pw, rfl, rfl⟩) H'
    · -- a case
      have H : Sep z (tblA pt :: imA A (.slice ao ims.length ic) es :: blk pl [.pointer (some ⟨pd, 0, none⟩), .pointer (some ⟨pt, 0, none⟩), .int .i64 s.gen, .int .i64 s.epoch, .int .i64 s.pages, .int .i64 s.start, .int .i64 s.len, .int .i64 s.head, .int .i64 s.seq, .int .i64 at_, .int .i64 sq, .int .i64 us, .bool br, .bool nu] 77 :: blk b3 [.int .i64 im.num, .int .i64 im.kind, bv] 85 :: grow 3 1 v1 i (nsC (ims.take i)) :: blk b2 [.int .i64 s.epoch, .int .i64 sq, v1, u32 0] 100 :: mapB m1 (seen ((ims.take i).map Img.num)) (((ims.take i).map Img.num).length) :: R) w := H'
      clear H'
      refine a_and (H.pick 7 [2, 3] rfl) ?_
      refine a_do 6 rfl (by kernel_rfl) (by kernel_rfl) (by kernel_rfl) rfl rfl rfl (d_move rfl rfl) (H.pick 7 [2, 3] rfl) ?_
      refine a_do 7 rfl (by kernel_rfl) (by kernel_rfl) (by kernel_rfl) rfl rfl rfl (d_extract rfl rfl rfl) (H.pick 7 [2, 3] rfl) ?_
      refine a_do 8 rfl (by kernel_rfl) (by kernel_rfl) (by kernel_rfl) rfl rfl rfl (d_extract rfl rfl rfl) (H.pick 7 [2, 3] rfl) ?_
      refine a_do 9 rfl (by kernel_rfl) (by kernel_rfl) (by kernel_rfl) rfl rfl rfl (d_assign rfl rfl) (H.pick 7 [2, 3] rfl) ?_
      refine a_do 10 rfl (by kernel_rfl) (by kernel_rfl) (by kernel_rfl) rfl rfl rfl (d_assign rfl rfl) (H.pick 7 [2, 3] rfl) ?_
      refine a_done (by kernel_rfl) ?_
      refine k_seq ?_
      refine s_region ?_
      refine s_do rfl rfl rfl (d_move rfl rfl) ?_
      refine s_do rfl rfl rfl (d_neq rfl rfl rfl) ?_
      refine k_updA 46 (u := .bool (decide ((1 : Int) ≠ 0))) (v := .bool true) rfl (congrArg Value.bool (by decide)) ?_
      refine s_do rfl rfl rfl (d_move rfl rfl) ?_
      refine s_skip rfl rfl rfl ?_
      refine s_skip rfl rfl rfl ?_
      refine s_skip rfl rfl rfl ?_
      refine s_skip rfl rfl rfl ?_
      refine s_do rfl rfl rfl (d_pick_t rfl rfl rfl) ?_
      refine s_end ?_
      refine k_true rfl ?_
      refine k_seq ?_
      refine s_region ?_
      refine s_do rfl rfl rfl (d_assign rfl rfl) ?_
      refine s_do rfl rfl rfl (d_assign rfl rfl) ?_
      refine s_end ?_
      refine k_ret ?_
      refine doneL rfl [.slice none 0 0, .int .i64 1] ⟨rfl, ⟨rfl, trivial⟩⟩ (v := .tuple #[.slice none 0 0, .int .i64 1]) rfl ?_
      have H' := H.mono 1 (B := A) rfl (fun h q => q.1)
      have H : Sep z (tblA pt :: A :: blk pl [.pointer (some ⟨pd, 0, none⟩), .pointer (some ⟨pt, 0, none⟩), .int .i64 s.gen, .int .i64 s.epoch, .int .i64 s.pages, .int .i64 s.start, .int .i64 s.len, .int .i64 s.head, .int .i64 s.seq, .int .i64 at_, .int .i64 sq, .int .i64 us, .bool br, .bool nu] 77 :: blk b3 [.int .i64 im.num, .int .i64 im.kind, bv] 85 :: grow 3 1 v1 i (nsC (ims.take i)) :: blk b2 [.int .i64 s.epoch, .int .i64 sq, v1, u32 0] 100 :: mapB m1 (seen ((ims.take i).map Img.num)) (((ims.take i).map Img.num).length) :: R) w := H'
      clear H'
      exact ⟨[blk pl [.pointer (some ⟨pd, 0, none⟩), .pointer (some ⟨pt, 0, none⟩), .int .i64 s.gen, .int .i64 s.epoch, .int .i64 s.pages, .int .i64 s.start, .int .i64 s.len, .int .i64 s.head, .int .i64 s.seq, .int .i64 at_, .int .i64 sq, .int .i64 us, .bool br, .bool nu] 77, tblA pt, A], .inl ⟨by rintro ⟨q1, q2⟩; first | exact hbad (q1 im (List.mem_of_getElem? him)) | (exact nodup_take q2 him ‹_›), rfl, rfl⟩, H.perm 7 [2, 0, 1] rfl rfl⟩
    · -- a case
      have H : Sep z (blk pw (wrC (sect ([80, 80, 65, 71] ++ beN 1 im.kind ++ beN 4 im.num ++ [0, 0, 0] ++ im.body)) 252) 118 :: tblA pt :: imA A (.slice ao ims.length ic) es :: blk pl [.pointer (some ⟨pd, 0, none⟩), .pointer (some ⟨pt, 0, none⟩), .int .i64 s.gen, .int .i64 s.epoch, .int .i64 s.pages, .int .i64 s.start, .int .i64 s.len, .int .i64 s.head, .int .i64 s.seq, .int .i64 at_, .int .i64 sq, .int .i64 us, .bool br, .bool nu] 77 :: blk b3 [.int .i64 im.num, .int .i64 im.kind, bv] 85 :: grow 3 1 v1 i (nsC (ims.take i)) :: blk b2 [.int .i64 s.epoch, .int .i64 sq, v1, u32 0] 100 :: mapB m1 (seen ((ims.take i).map Img.num)) (((ims.take i).map Img.num).length) :: R) w := H'
      clear H'
      refine a_and (H.pick 8 [3, 4] rfl) ?_
      refine a_do 6 rfl (by kernel_rfl) (by kernel_rfl) (by kernel_rfl) rfl rfl rfl (d_move rfl rfl) (H.pick 8 [3, 4] rfl) ?_
      refine a_do 7 rfl (by kernel_rfl) (by kernel_rfl) (by kernel_rfl) rfl rfl rfl (d_extract rfl rfl rfl) (H.pick 8 [3, 4] rfl) ?_
      refine a_do 8 rfl (by kernel_rfl) (by kernel_rfl) (by kernel_rfl) rfl rfl rfl (d_extract rfl rfl rfl) (H.pick 8 [3, 4] rfl) ?_
      refine a_do 9 rfl (by kernel_rfl) (by kernel_rfl) (by kernel_rfl) rfl rfl rfl (d_assign rfl rfl) (H.pick 8 [3, 4] rfl) ?_
      refine a_do 10 rfl (by kernel_rfl) (by kernel_rfl) (by kernel_rfl) rfl rfl rfl (d_assign rfl rfl) (H.pick 8 [3, 4] rfl) ?_
      refine a_done (by kernel_rfl) ?_
      refine k_seq ?_
      refine s_region ?_
      refine s_do rfl rfl rfl (d_move rfl rfl) ?_
      refine s_do rfl rfl rfl (d_neq rfl rfl rfl) ?_
      refine k_updA 46 (u := .bool (decide ((0 : Int) ≠ 0))) (v := .bool false) rfl (congrArg Value.bool (by decide)) ?_
      refine s_do rfl rfl rfl (d_move rfl rfl) ?_
      refine s_do rfl rfl rfl (d_move rfl rfl) ?_
      refine s_do rfl rfl rfl (d_field rfl (k := 0) (r := 0) (by kernel_rfl) rfl rfl) ?_
      refine s_do rfl rfl rfl (d_load rfl rfl (by kernel_rfl) (here (H.cel 4 rfl 0 rfl))) ?_
      refine s_do rfl rfl rfl (d_lookup (e := 4) (zv := .bool false) rfl (by kernel_rfl) (by kernel_rfl) rfl rfl (here (H.bk 7 rfl))) ?_
      refine k_updA 51 (u := (getM (seen ((ims.take i).map Img.num)) im.num).getD (.bool false)) (v := .bool (decide (im.num ∈ (ims.take i).map Img.num))) rfl (get_seen _ _) ?_
      refine s_do rfl rfl rfl (d_pick_f rfl rfl rfl) ?_
      refine s_end ?_
      refine k_dec rfl (fun h2 => ?_) (fun h2 => ?_)
      · -- yes: im.num ∈ (ims.take i).map Img.num
        refine k_seq ?_
        refine s_region ?_
        refine s_do rfl rfl rfl (d_assign rfl rfl) ?_
        refine s_do rfl rfl rfl (d_assign rfl rfl) ?_
        refine s_end ?_
        refine k_ret ?_
        refine doneL rfl [.slice none 0 0, .int .i64 1] ⟨rfl, ⟨rfl, trivial⟩⟩ (v := .tuple #[.slice none 0 0, .int .i64 1]) rfl ?_
        have H' := H.mono 2 (B := A) rfl (fun h q => q.1)
        have H : Sep z (blk pw (wrC (sect ([80, 80, 65, 71] ++ beN 1 im.kind ++ beN 4 im.num ++ [0, 0, 0] ++ im.body)) 252) 118 :: tblA pt :: A :: blk pl [.pointer (some ⟨pd, 0, none⟩), .pointer (some ⟨pt, 0, none⟩), .int .i64 s.gen, .int .i64 s.epoch, .int .i64 s.pages, .int .i64 s.start, .int .i64 s.len, .int .i64 s.head, .int .i64 s.seq, .int .i64 at_, .int .i64 sq, .int .i64 us, .bool br, .bool nu] 77 :: blk b3 [.int .i64 im.num, .int .i64 im.kind, bv] 85 :: grow 3 1 v1 i (nsC (ims.take i)) :: blk b2 [.int .i64 s.epoch, .int .i64 sq, v1, u32 0] 100 :: mapB m1 (seen ((ims.take i).map Img.num)) (((ims.take i).map Img.num).length) :: R) w := H'
        clear H'
        exact ⟨[blk pl [.pointer (some ⟨pd, 0, none⟩), .pointer (some ⟨pt, 0, none⟩), .int .i64 s.gen, .int .i64 s.epoch, .int .i64 s.pages, .int .i64 s.start, .int .i64 s.len, .int .i64 s.head, .int .i64 s.seq, .int .i64 at_, .int .i64 sq, .int .i64 us, .bool br, .bool nu] 77, tblA pt, A], .inl ⟨by rintro ⟨q1, q2⟩; first | exact hbad (q1 im (List.mem_of_getElem? him)) | (exact nodup_take q2 him ‹_›), rfl, rfl⟩, H.perm 8 [3, 1, 2] rfl rfl⟩
      · -- no: im.num ∈ (ims.take i).map Img.num
        refine k_skip ?_
        refine k_seq ?_
        refine s_region ?_
        refine s_do rfl rfl rfl (d_move rfl rfl) ?_
        refine s_do rfl rfl rfl (d_field rfl (k := 0) (r := 0) (by kernel_rfl) rfl rfl) ?_
        refine s_do rfl rfl rfl (d_load rfl rfl (by kernel_rfl) (here (H.cel 4 rfl 0 rfl))) ?_
        refine s_put rfl rfl (n_mapUpdate 7 (e := 4) H rfl rfl (by kernel_rfl) rfl rfl rfl) ?_
        rintro w H'
        have H : Sep z (blk pw (wrC (sect ([80, 80, 65, 71] ++ beN 1 im.kind ++ beN 4 im.num ++ [0, 0, 0] ++ im.body)) 252) 118 :: tblA pt :: imA A (.slice ao ims.length ic) es :: blk pl [.pointer (some ⟨pd, 0, none⟩), .pointer (some ⟨pt, 0, none⟩), .int .i64 s.gen, .int .i64 s.epoch, .int .i64 s.pages, .int .i64 s.start, .int .i64 s.len, .int .i64 s.head, .int .i64 s.seq, .int .i64 at_, .int .i64 sq, .int .i64 us, .bool br, .bool nu] 77 :: blk b3 [.int .i64 im.num, .int .i64 im.kind, bv] 85 :: grow 3 1 v1 i (nsC (ims.take i)) :: blk b2 [.int .i64 s.epoch, .int .i64 sq, v1, u32 0] 100 :: mapB m1 (putM (seen ((ims.take i).map Img.num)) im.num (.bool true) (((ims.take i).map Img.num).length)) (putC (seen ((ims.take i).map Img.num)) im.num (((ims.take i).map Img.num).length)) :: R) w := H'
        clear H'
        refine s_end ?_
        have htk : (ims.take (i + 1)).map Img.num = (ims.take i).map Img.num ++ [im.num] := by rw [List.take_add_one, him]; simp
        have hps := put_seen (ns := (ims.take i).map Img.num) (k := im.num) ‹_›
        rw [hps.1, hps.2, ← htk] at H
        have H : Sep z (blk pw (wrC (sect ([80, 80, 65, 71] ++ beN 1 im.kind ++ beN 4 im.num ++ [0, 0, 0] ++ im.body)) 252) 118 :: tblA pt :: imA A (.slice ao ims.length ic) es :: blk pl [.pointer (some ⟨pd, 0, none⟩), .pointer (some ⟨pt, 0, none⟩), .int .i64 s.gen, .int .i64 s.epoch, .int .i64 s.pages, .int .i64 s.start, .int .i64 s.len, .int .i64 s.head, .int .i64 s.seq, .int .i64 at_, .int .i64 sq, .int .i64 us, .bool br, .bool nu] 77 :: blk b3 [.int .i64 im.num, .int .i64 im.kind, bv] 85 :: grow 3 1 v1 i (nsC (ims.take i)) :: blk b2 [.int .i64 s.epoch, .int .i64 sq, v1, u32 0] 100 :: mapB m1 (seen ((ims.take (i + 1)).map Img.num)) (((ims.take (i + 1)).map Img.num).length) :: R) w := H
        refine s_region ?_
        refine s_do rfl rfl rfl (d_field rfl (k := 2) (r := 2) (by kernel_rfl) rfl rfl) ?_
        refine s_do rfl rfl rfl (d_load rfl rfl (by kernel_rfl) (here (H.cel 6 rfl 2 rfl))) ?_
        refine s_do rfl rfl rfl (d_field rfl (k := 0) (r := 0) (by kernel_rfl) rfl rfl) ?_
        refine s_do rfl rfl rfl (d_load rfl rfl (by kernel_rfl) (here (H.cel 4 rfl 0 rfl))) ?_
        refine s_go rfl rfl rfl (n_buildSlice H rfl (by kernel_rfl) (Elt.mk (P := Tryz.prog) (e := 3) (z := .int .i64 0) (sz := 1) (by_ := 8) (by kernel_rfl) rfl (by omega) (by omega)) rfl (by decide) (by decide) (out := [.int .i64 im.num]) (by kernel_rfl)) ?_
        rintro _ w ⟨b4, rfl, H'⟩
        have H : Sep z (blk b4 [.int .i64 im.num] 3 :: blk pw (wrC (sect ([80, 80, 65, 71] ++ beN 1 im.kind ++ beN 4 im.num ++ [0, 0, 0] ++ im.body)) 252) 118 :: tblA pt :: imA A (.slice ao ims.length ic) es :: blk pl [.pointer (some ⟨pd, 0, none⟩), .pointer (some ⟨pt, 0, none⟩), .int .i64 s.gen, .int .i64 s.epoch, .int .i64 s.pages, .int .i64 s.start, .int .i64 s.len, .int .i64 s.head, .int .i64 s.seq, .int .i64 at_, .int .i64 sq, .int .i64 us, .bool br, .bool nu] 77 :: blk b3 [.int .i64 im.num, .int .i64 im.kind, bv] 85 :: grow 3 1 v1 i (nsC (ims.take i)) :: blk b2 [.int .i64 s.epoch, .int .i64 sq, v1, u32 0] 100 :: mapB m1 (seen ((ims.take (i + 1)).map Img.num)) (((ims.take (i + 1)).map Img.num).length) :: R) w := H'
        clear H'
        refine s_go rfl rfl rfl (n_append 6 H rfl rfl (by kernel_rfl) (Elt.mk (P := Tryz.prog) (e := 3) (z := .int .i64 0) (sz := 1) (by_ := 8) (by kernel_rfl) rfl (by omega) (by omega)) rfl rfl (H.rd 0 rfl (fun h q => q.rd (by omega) (by omega) (by simp) rfl)) (by simp [Value.oneCell']) (by omega)) ?_
        rintro v5 w H'
        have H' : Sep z (blk b4 [.int .i64 im.num] 3 :: blk pw (wrC (sect ([80, 80, 65, 71] ++ beN 1 im.kind ++ beN 4 im.num ++ [0, 0, 0] ++ im.body)) 252) 118 :: tblA pt :: imA A (.slice ao ims.length ic) es :: blk pl [.pointer (some ⟨pd, 0, none⟩), .pointer (some ⟨pt, 0, none⟩), .int .i64 s.gen, .int .i64 s.epoch, .int .i64 s.pages, .int .i64 s.start, .int .i64 s.len, .int .i64 s.head, .int .i64 s.seq, .int .i64 at_, .int .i64 sq, .int .i64 us, .bool br, .bool nu] 77 :: blk b3 [.int .i64 im.num, .int .i64 im.kind, bv] 85 :: grow 3 1 v5 (i + 1) (nsC (ims.take i) ++ [.int .i64 im.num]) :: blk b2 [.int .i64 s.epoch, .int .i64 sq, v1, u32 0] 100 :: mapB m1 (seen ((ims.take (i + 1)).map Img.num)) (((ims.take (i + 1)).map Img.num).length) :: R) w := H'
        have ev5 : (nsC (ims.take i) ++ [.int .i64 im.num] : List Value) = nsC (ims.take (i + 1)) := nsC_snoc him
        rw [ev5] at H'
        have H : Sep z (blk b4 [.int .i64 im.num] 3 :: blk pw (wrC (sect ([80, 80, 65, 71] ++ beN 1 im.kind ++ beN 4 im.num ++ [0, 0, 0] ++ im.body)) 252) 118 :: tblA pt :: imA A (.slice ao ims.length ic) es :: blk pl [.pointer (some ⟨pd, 0, none⟩), .pointer (some ⟨pt, 0, none⟩), .int .i64 s.gen, .int .i64 s.epoch, .int .i64 s.pages, .int .i64 s.start, .int .i64 s.len, .int .i64 s.head, .int .i64 s.seq, .int .i64 at_, .int .i64 sq, .int .i64 us, .bool br, .bool nu] 77 :: blk b3 [.int .i64 im.num, .int .i64 im.kind, bv] 85 :: grow 3 1 v5 (i + 1) (nsC (ims.take (i + 1))) :: blk b2 [.int .i64 s.epoch, .int .i64 sq, v1, u32 0] 100 :: mapB m1 (seen ((ims.take (i + 1)).map Img.num)) (((ims.take (i + 1)).map Img.num).length) :: R) w := H'
        clear H'
        have sv5 := H.says 6 rfl (fun h q => q.slc)
        refine s_do rfl rfl rfl (d_field rfl (k := 2) (r := 2) (by kernel_rfl) rfl rfl) ?_
        refine s_put rfl rfl (n_store 7 H rfl rfl rfl rfl (vs := [v5]) sv5.cells (one_cons sv5.one one_nil) (by kernel_rfl) (by simp) (out := [.int .i64 s.epoch, .int .i64 sq, v5, u32 0]) rfl) ?_
        rintro w H'
        have H : Sep z (blk b4 [.int .i64 im.num] 3 :: blk pw (wrC (sect ([80, 80, 65, 71] ++ beN 1 im.kind ++ beN 4 im.num ++ [0, 0, 0] ++ im.body)) 252) 118 :: tblA pt :: imA A (.slice ao ims.length ic) es :: blk pl [.pointer (some ⟨pd, 0, none⟩), .pointer (some ⟨pt, 0, none⟩), .int .i64 s.gen, .int .i64 s.epoch, .int .i64 s.pages, .int .i64 s.start, .int .i64 s.len, .int .i64 s.head, .int .i64 s.seq, .int .i64 at_, .int .i64 sq, .int .i64 us, .bool br, .bool nu] 77 :: blk b3 [.int .i64 im.num, .int .i64 im.kind, bv] 85 :: grow 3 1 v5 (i + 1) (nsC (ims.take (i + 1))) :: blk b2 [.int .i64 s.epoch, .int .i64 sq, v5, u32 0] 100 :: mapB m1 (seen ((ims.take (i + 1)).map Img.num)) (((ims.take (i + 1)).map Img.num).length) :: R) w := H'
        clear H'
        refine s_end ?_
        refine s_region ?_
        refine s_do rfl rfl rfl (d_add64 rfl rfl rfl (r := (i : Int) + 1) (by omega) (by omega)) ?_
        refine s_do rfl rfl rfl (d_move rfl rfl) ?_
        refine s_end ?_
        have H' := H.pick 9 [6, 7, 4, 8, 2, 3] rfl
        have H : Sep z (grow 3 1 v5 (i + 1) (nsC (ims.take (i + 1))) :: blk b2 [.int .i64 s.epoch, .int .i64 sq, v5, u32 0] 100 :: blk pl [.pointer (some ⟨pd, 0, none⟩), .pointer (some ⟨pt, 0, none⟩), .int .i64 s.gen, .int .i64 s.epoch, .int .i64 s.pages, .int .i64 s.start, .int .i64 s.len, .int .i64 s.head, .int .i64 s.seq, .int .i64 at_, .int .i64 sq, .int .i64 us, .bool br, .bool nu] 77 :: mapB m1 (seen ((ims.take (i + 1)).map Img.num)) (((ims.take (i + 1)).map Img.num).length) :: tblA pt :: imA A (.slice ao ims.length ic) es :: R) w := H'
        clear H'
        intro _ hF
        refine ⟨⟨i + 1, v5⟩, (hF.cons (hF.cons (hF.cons (hF.cons (hF.cons (hF.cons (hF.cons (hF.cons hF.nil 31 _ _ rfl rfl) 30 _ _ rfl rfl) 8 _ _ rfl rfl) 7 _ _ rfl rfl) 6 _ _ rfl rfl) 1 _ _ rfl rfl) 0 _ _ rfl rfl) 32 _ _ rfl (by go_num)), ⟨H, ?_⟩, ?_⟩
        · dsimp only
          refine ⟨by omega, fun j m hj h => ?_, ?_⟩
          · rcases Nat.lt_or_ge j i with q | q
            · exact hall j m q h
            · obtain rfl : j = i := by omega
              rw [him] at h; cases h; exact hgood
          · rw [htk, List.nodup_append]
            exact ⟨hnd, by simp, fun a ha b hb => by simp at hb; subst hb; exact fun e => absurd (e ▸ ha) ‹_›⟩
        · (dsimp only; omega)
  · -- no: (i : Int) < (ims.length : Int)
    obtain rfl : i = ims.length := by omega
    refine k_exit ?_
    refine k_here ?_
    refine k_seq ?_
    refine k_seq ?_
    rw [List.take_length] at H
    rw [List.take_length] at hnd
    have H : Sep z (grow 3 1 v1 ims.length (nsC ims) :: blk b2 [.int .i64 s.epoch, .int .i64 sq, v1, u32 0] 100 :: blk pl [.pointer (some ⟨pd, 0, none⟩), .pointer (some ⟨pt, 0, none⟩), .int .i64 s.gen, .int .i64 s.epoch, .int .i64 s.pages, .int .i64 s.start, .int .i64 s.len, .int .i64 s.head, .int .i64 s.seq, .int .i64 at_, .int .i64 sq, .int .i64 us, .bool br, .bool nu] 77 :: mapB m1 (seen (ims.map Img.num)) ((ims.map Img.num).length) :: tblA pt :: imA A (.slice ao ims.length ic) es :: R) w := H
    have hallm : ∀ m ∈ ims, m.Ok := fun m hm => by obtain ⟨j, hj, rfl⟩ := List.mem_iff_getElem.1 hm; exact hall j _ hj (List.getElem?_eq_getElem hj)
    refine s_region ?_
    refine s_do rfl rfl rfl (d_move rfl rfl) ?_
    refine s_do rfl rfl rfl (d_len rfl (z := 3) (by kernel_rfl) rfl) ?_
    refine s_do rfl rfl rfl (d_add64 rfl rfl rfl (r := 1 + (ims.length : Int)) (by omega) (by omega)) ?_
    refine s_do rfl rfl rfl (d_move rfl rfl) ?_
    refine s_callC rfl rfl rfl rfl rfl (fun w => Tryz.call14 _ w) (room_c _ _ _ _ _ _ _ _ _ (by omega)) H 3 [2, 0, 1] rfl rfl ?_
    rintro _ w _ ⟨rfl, rfl⟩ H'
    have H : Sep z (blk pl [.pointer (some ⟨pd, 0, none⟩), .pointer (some ⟨pt, 0, none⟩), .int .i64 s.gen, .int .i64 s.epoch, .int .i64 s.pages, .int .i64 s.start, .int .i64 s.len, .int .i64 s.head, .int .i64 s.seq, .int .i64 at_, .int .i64 sq, .int .i64 us, .bool br, .bool nu] 77 :: grow 3 1 v1 ims.length (nsC ims) :: blk b2 [.int .i64 s.epoch, .int .i64 sq, v1, u32 0] 100 :: mapB m1 (seen (ims.map Img.num)) ((ims.map Img.num).length) :: tblA pt :: imA A (.slice ao ims.length ic) es :: R) w := H'
    clear H'
    refine s_do rfl rfl rfl (d_gtr rfl rfl rfl) ?_
    refine s_do rfl rfl rfl (d_move rfl rfl) ?_
    refine s_part 70 rfl (fun h3 => ?_) (fun h3 => ?_)
    · -- yes: (if br then 0 else s.len - us : Int) < (1 + (ims.length : Int))
      refine s_skip rfl rfl rfl ?_
      refine s_skip rfl rfl rfl ?_
      refine s_skip rfl rfl rfl ?_
      refine s_skip rfl rfl rfl ?_
      refine s_skip rfl rfl rfl ?_
      refine s_do rfl rfl rfl (d_pick_t rfl rfl rfl) ?_
      refine s_do rfl rfl rfl (d_move rfl rfl) ?_
      refine s_skip rfl rfl rfl ?_
      refine s_skip rfl rfl rfl ?_
      refine s_skip rfl rfl rfl ?_
      refine s_skip rfl rfl rfl ?_
      refine s_skip rfl rfl rfl ?_
      refine s_do rfl rfl rfl (d_pick_t rfl rfl rfl) ?_
      refine s_end ?_
      refine k_true rfl ?_
      refine k_seq ?_
      refine s_region ?_
      refine s_do rfl rfl rfl (d_assign rfl rfl) ?_
      refine s_do rfl rfl rfl (d_assign rfl rfl) ?_
      refine s_end ?_
      refine k_ret ?_
      refine doneL rfl [.slice none 0 0, .int .i64 15] ⟨rfl, ⟨rfl, trivial⟩⟩ (v := .tuple #[.slice none 0 0, .int .i64 15]) rfl ?_
      have H' := H.mono 5 (B := A) rfl (fun h q => q.1)
      have H : Sep z (blk pl [.pointer (some ⟨pd, 0, none⟩), .pointer (some ⟨pt, 0, none⟩), .int .i64 s.gen, .int .i64 s.epoch, .int .i64 s.pages, .int .i64 s.start, .int .i64 s.len, .int .i64 s.head, .int .i64 s.seq, .int .i64 at_, .int .i64 sq, .int .i64 us, .bool br, .bool nu] 77 :: grow 3 1 v1 ims.length (nsC ims) :: blk b2 [.int .i64 s.epoch, .int .i64 sq, v1, u32 0] 100 :: mapB m1 (seen (ims.map Img.num)) ((ims.map Img.num).length) :: tblA pt :: A :: R) w := H'
      clear H'
      exact ⟨[blk pl [.pointer (some ⟨pd, 0, none⟩), .pointer (some ⟨pt, 0, none⟩), .int .i64 s.gen, .int .i64 s.epoch, .int .i64 s.pages, .int .i64 s.start, .int .i64 s.len, .int .i64 s.head, .int .i64 s.seq, .int .i64 at_, .int .i64 sq, .int .i64 us, .bool br, .bool nu] 77, tblA pt, A], .inr (.inl ⟨⟨hallm, hnd⟩, by rintro ⟨q1, q2, q3⟩; first | omega | simp_all, rfl, rfl⟩), H.perm 6 [0, 4, 5] rfl rfl⟩
    · -- no: (if br then 0 else s.len - us : Int) < (1 + (ims.length : Int))
      refine s_do rfl rfl rfl (d_move rfl rfl) ?_
      refine s_do rfl rfl rfl (d_nilCheck rfl rfl) ?_
      refine s_do rfl rfl rfl (d_field rfl (k := 13) (r := 13) (by kernel_rfl) rfl rfl) ?_
      refine s_do rfl rfl rfl (d_load rfl rfl (by kernel_rfl) (here (H.cel 0 rfl 13 rfl))) ?_
      refine s_do rfl rfl rfl (d_not rfl rfl) ?_
      refine s_do rfl rfl rfl (d_pick_f rfl rfl rfl) ?_
      refine s_do rfl rfl rfl (d_move rfl rfl) ?_
      refine s_part_b 77 rfl (fun h4 => ?_) (fun h4 => ?_)
      · -- yes: (!nu)
        refine s_skip rfl rfl rfl ?_
        refine s_skip rfl rfl rfl ?_
        refine s_skip rfl rfl rfl ?_
        refine s_skip rfl rfl rfl ?_
        refine s_skip rfl rfl rfl ?_
        refine s_do rfl rfl rfl (d_pick_t rfl rfl rfl) ?_
        refine s_end ?_
        refine k_true rfl ?_
        refine k_seq ?_
        refine s_region ?_
        refine s_do rfl rfl rfl (d_assign rfl rfl) ?_
        refine s_do rfl rfl rfl (d_assign rfl rfl) ?_
        refine s_end ?_
        refine k_ret ?_
        refine doneL rfl [.slice none 0 0, .int .i64 15] ⟨rfl, ⟨rfl, trivial⟩⟩ (v := .tuple #[.slice none 0 0, .int .i64 15]) rfl ?_
        have H' := H.mono 5 (B := A) rfl (fun h q => q.1)
        have H : Sep z (blk pl [.pointer (some ⟨pd, 0, none⟩), .pointer (some ⟨pt, 0, none⟩), .int .i64 s.gen, .int .i64 s.epoch, .int .i64 s.pages, .int .i64 s.start, .int .i64 s.len, .int .i64 s.head, .int .i64 s.seq, .int .i64 at_, .int .i64 sq, .int .i64 us, .bool br, .bool nu] 77 :: grow 3 1 v1 ims.length (nsC ims) :: blk b2 [.int .i64 s.epoch, .int .i64 sq, v1, u32 0] 100 :: mapB m1 (seen (ims.map Img.num)) ((ims.map Img.num).length) :: tblA pt :: A :: R) w := H'
        clear H'
        exact ⟨[blk pl [.pointer (some ⟨pd, 0, none⟩), .pointer (some ⟨pt, 0, none⟩), .int .i64 s.gen, .int .i64 s.epoch, .int .i64 s.pages, .int .i64 s.start, .int .i64 s.len, .int .i64 s.head, .int .i64 s.seq, .int .i64 at_, .int .i64 sq, .int .i64 us, .bool br, .bool nu] 77, tblA pt, A], .inr (.inl ⟨⟨hallm, hnd⟩, by rintro ⟨q1, q2, q3⟩; first | omega | simp_all, rfl, rfl⟩), H.perm 6 [0, 4, 5] rfl rfl⟩
      · -- no: (!nu)
        have hnt : nu = true := by simpa using h4
        have hep : s.epoch < 4294967296 := by rw [hnt] at hnu; simpa using hnu.symm
        refine s_do rfl rfl rfl (d_move rfl rfl) ?_
        refine s_do rfl rfl rfl (d_nilCheck rfl rfl) ?_
        refine s_do rfl rfl rfl (d_field rfl (k := 10) (r := 10) (by kernel_rfl) rfl rfl) ?_
        refine s_do rfl rfl rfl (d_load rfl rfl (by kernel_rfl) (here (H.cel 0 rfl 10 rfl))) ?_
        refine s_do rfl rfl rfl (d_geq rfl rfl rfl) ?_
        refine s_do rfl rfl rfl (d_pick_f rfl rfl rfl) ?_
        refine s_end ?_
        refine k_dec rfl (fun h5 => ?_) (fun h5 => ?_)
        · -- yes: (1099511627776 : Int) ≤ sq
          refine k_seq ?_
          refine s_region ?_
          refine s_do rfl rfl rfl (d_assign rfl rfl) ?_
          refine s_do rfl rfl rfl (d_assign rfl rfl) ?_
          refine s_end ?_
          refine k_ret ?_
          refine doneL rfl [.slice none 0 0, .int .i64 15] ⟨rfl, ⟨rfl, trivial⟩⟩ (v := .tuple #[.slice none 0 0, .int .i64 15]) rfl ?_
          have H' := H.mono 5 (B := A) rfl (fun h q => q.1)
          have H : Sep z (blk pl [.pointer (some ⟨pd, 0, none⟩), .pointer (some ⟨pt, 0, none⟩), .int .i64 s.gen, .int .i64 s.epoch, .int .i64 s.pages, .int .i64 s.start, .int .i64 s.len, .int .i64 s.head, .int .i64 s.seq, .int .i64 at_, .int .i64 sq, .int .i64 us, .bool br, .bool nu] 77 :: grow 3 1 v1 ims.length (nsC ims) :: blk b2 [.int .i64 s.epoch, .int .i64 sq, v1, u32 0] 100 :: mapB m1 (seen (ims.map Img.num)) ((ims.map Img.num).length) :: tblA pt :: A :: R) w := H'
          clear H'
          exact ⟨[blk pl [.pointer (some ⟨pd, 0, none⟩), .pointer (some ⟨pt, 0, none⟩), .int .i64 s.gen, .int .i64 s.epoch, .int .i64 s.pages, .int .i64 s.start, .int .i64 s.len, .int .i64 s.head, .int .i64 s.seq, .int .i64 at_, .int .i64 sq, .int .i64 us, .bool br, .bool nu] 77, tblA pt, A], .inr (.inl ⟨⟨hallm, hnd⟩, by rintro ⟨q1, q2, q3⟩; first | omega | simp_all, rfl, rfl⟩), H.perm 6 [0, 4, 5] rfl rfl⟩
        · -- no: (1099511627776 : Int) ≤ sq
          refine k_skip ?_
          refine k_seq ?_
          refine k_seq ?_
          refine s_region ?_
          refine s_do rfl rfl rfl (d_move rfl rfl) ?_
          refine s_do rfl rfl rfl (d_len rfl (z := 3) (by kernel_rfl) rfl) ?_
          refine s_do rfl rfl rfl (d_move rfl rfl) ?_
          refine s_end ?_
          have H' := H.nilg 5 1
          have H : Sep z (grow 5 1 (.slice none 0 0) 0 [] :: blk pl [.pointer (some ⟨pd, 0, none⟩), .pointer (some ⟨pt, 0, none⟩), .int .i64 s.gen, .int .i64 s.epoch, .int .i64 s.pages, .int .i64 s.start, .int .i64 s.len, .int .i64 s.head, .int .i64 s.seq, .int .i64 at_, .int .i64 sq, .int .i64 us, .bool br, .bool nu] 77 :: grow 3 1 v1 ims.length (nsC ims) :: blk b2 [.int .i64 s.epoch, .int .i64 sq, v1, u32 0] 100 :: mapB m1 (seen (ims.map Img.num)) ((ims.map Img.num).length) :: tblA pt :: imA A (.slice ao ims.length ic) es :: R) w := H'
          clear H'
          refine k_block ?_
          refine c_loop (σ := Nat × Value) (fun ⟨i, v2⟩ => [(86, .int .i64 (i : Int)), (6, v2), (0, .pointer (some ⟨pl, 0, none⟩)), (8, .pointer (some ⟨b2, 0, none⟩)), (84, .slice ao ims.length ic), (85, .int .i64 (ims.length : Int))])
            (fun ⟨i, v2⟩ w => Sep z (grow 5 1 v2 (i * 256) ((imgB s.epoch sq (ims.take i)).map u8) :: blk pl [.pointer (some ⟨pd, 0, none⟩), .pointer (some ⟨pt, 0, none⟩), .int .i64 s.gen, .int .i64 s.epoch, .int .i64 s.pages, .int .i64 s.start, .int .i64 s.len, .int .i64 s.head, .int .i64 s.seq, .int .i64 at_, .int .i64 sq, .int .i64 us, .bool br, .bool nu] 77 :: grow 3 1 v1 ims.length (nsC ims) :: blk b2 [.int .i64 s.epoch, .int .i64 sq, v1, u32 0] 100 :: mapB m1 (seen (ims.map Img.num)) ((ims.map Img.num).length) :: tblA pt :: imA A (.slice ao ims.length ic) es :: R) w ∧ (i ≤ ims.length)) (fun ⟨i, v2⟩ => ims.length - i) ⟨0, .slice none 0 0⟩
            (fun _ hF => (hF.cons (hF.cons (hF.cons (hF.cons (hF.cons (hF.cons hF.nil 85 _ _ rfl rfl) 84 _ _ rfl rfl) 8 _ _ rfl rfl) 0 _ _ rfl rfl) 6 _ _ rfl (by go_num)) 86 _ _ rfl (by go_num))) ⟨H, by omega⟩ ?_
          clear H; rintro ⟨i, v2⟩ w ⟨H', hI⟩
          dsimp only at hI H' ⊢
          have H : Sep z (grow 5 1 v2 (i * 256) ((imgB s.epoch sq (ims.take i)).map u8) :: blk pl [.pointer (some ⟨pd, 0, none⟩), .pointer (some ⟨pt, 0, none⟩), .int .i64 s.gen, .int .i64 s.epoch, .int .i64 s.pages, .int .i64 s.start, .int .i64 s.len, .int .i64 s.head, .int .i64 s.seq, .int .i64 at_, .int .i64 sq, .int .i64 us, .bool br, .bool nu] 77 :: grow 3 1 v1 ims.length (nsC ims) :: blk b2 [.int .i64 s.epoch, .int .i64 sq, v1, u32 0] 100 :: mapB m1 (seen (ims.map Img.num)) ((ims.map Img.num).length) :: tblA pt :: imA A (.slice ao ims.length ic) es :: R) w := H'
          clear H'
          have sv2 := H.says 0 rfl (fun h q => q.slc)
          have sv1 := H.says 2 rfl (fun h q => q.slc)
          have hin2 := hI; clear hI
          refine k_seq ?_
          refine s_region ?_
          refine s_do rfl rfl rfl (d_lss rfl rfl rfl) ?_
          refine s_end ?_
          refine k_seq ?_
          refine k_dec rfl (fun h6 => ?_) (fun h6 => ?_)
          · -- yes: (i : Int) < (ims.length : Int)
            have hlt : i < ims.length := by omega
            refine k_skip ?_
            refine k_seq ?_
            refine k_block ?_
            refine k_seq ?_
            refine s_region ?_
            obtain ⟨⟨im, bv⟩, he⟩ : ∃ e : ImE, es[i]? = some e := ⟨_, List.getElem?_eq_getElem (by omega)⟩
            have him : ims[i]? = some im := by rw [← hes]; simp [he]
            have sbv : Slc bv im.body.length := H.says 6 rfl (fun h q => (q.2.2 _ (List.mem_of_getElem? he)).slc)
            have hati := imA.at 6 H rfl he
            have hat := hati 0 (.int .i64 im.num) rfl
            refine s_do rfl rfl rfl (d_indexE rfl (z := 3) (j := i) (r := i * 3) (by kernel_rfl) rfl rfl rfl (by omega) hat (by omega)) ?_
            refine s_do rfl rfl rfl (d_loadAggE rfl rfl (vs := [.int .i64 im.num, .int .i64 im.kind, bv]) (by kernel_rfl) (by simp) (here hati)) ?_
            refine s_go rfl rfl rfl (n_alloc (P := Tryz.prog) H rfl (zs := [.int .i64 0, .int .i64 0, .slice none 0 0]) (by kernel_rfl)) ?_
            rintro _ w ⟨b6, rfl, H'⟩
            have H : Sep z (blk b6 [.int .i64 0, .int .i64 0, .slice none 0 0] 85 :: grow 5 1 v2 (i * 256) ((imgB s.epoch sq (ims.take i)).map u8) :: blk pl [.pointer (some ⟨pd, 0, none⟩), .pointer (some ⟨pt, 0, none⟩), .int .i64 s.gen, .int .i64 s.epoch, .int .i64 s.pages, .int .i64 s.start, .int .i64 s.len, .int .i64 s.head, .int .i64 s.seq, .int .i64 at_, .int .i64 sq, .int .i64 us, .bool br, .bool nu] 77 :: grow 3 1 v1 ims.length (nsC ims) :: blk b2 [.int .i64 s.epoch, .int .i64 sq, v1, u32 0] 100 :: mapB m1 (seen (ims.map Img.num)) ((ims.map Img.num).length) :: tblA pt :: imA A (.slice ao ims.length ic) es :: R) w := H'
            clear H'
            refine s_put rfl rfl (n_store 0 H rfl rfl rfl rfl (vs := [.int .i64 im.num, .int .i64 im.kind, bv]) rfl (one_cons rfl (one_cons rfl (one_cons sbv.one one_nil))) (by kernel_rfl) (by simp) (out := [.int .i64 im.num, .int .i64 im.kind, bv]) rfl) ?_
            rintro w H'
            have H : Sep z (blk b6 [.int .i64 im.num, .int .i64 im.kind, bv] 85 :: grow 5 1 v2 (i * 256) ((imgB s.epoch sq (ims.take i)).map u8) :: blk pl [.pointer (some ⟨pd, 0, none⟩), .pointer (some ⟨pt, 0, none⟩), .int .i64 s.gen, .int .i64 s.epoch, .int .i64 s.pages, .int .i64 s.start, .int .i64 s.len, .int .i64 s.head, .int .i64 s.seq, .int .i64 at_, .int .i64 sq, .int .i64 us, .bool br, .bool nu] 77 :: grow 3 1 v1 ims.length (nsC ims) :: blk b2 [.int .i64 s.epoch, .int .i64 sq, v1, u32 0] 100 :: mapB m1 (seen (ims.map Img.num)) ((ims.map Img.num).length) :: tblA pt :: imA A (.slice ao ims.length ic) es :: R) w := H'
            clear H'
            refine s_end ?_
            refine k_seq ?_
            have H' := H.pick 8 [2, 4, 0, 1, 3, 5, 6, 7] rfl
            have H : Sep z (blk pl [.pointer (some ⟨pd, 0, none⟩), .pointer (some ⟨pt, 0, none⟩), .int .i64 s.gen, .int .i64 s.epoch, .int .i64 s.pages, .int .i64 s.start, .int .i64 s.len, .int .i64 s.head, .int .i64 s.seq, .int .i64 at_, .int .i64 sq, .int .i64 us, .bool br, .bool nu] 77 :: blk b2 [.int .i64 s.epoch, .int .i64 sq, v1, u32 0] 100 :: blk b6 [.int .i64 im.num, .int .i64 im.kind, bv] 85 :: grow 5 1 v2 (i * 256) ((imgB s.epoch sq (ims.take i)).map u8) :: grow 3 1 v1 ims.length (nsC ims) :: mapB m1 (seen (ims.map Img.num)) ((ims.map Img.num).length) :: tblA pt :: imA A (.slice ao ims.length ic) es :: R) w := H'
            clear H'
            refine a_region (Sep z (blk pl [.pointer (some ⟨pd, 0, none⟩), .pointer (some ⟨pt, 0, none⟩), .int .i64 s.gen, .int .i64 s.epoch, .int .i64 s.pages, .int .i64 s.start, .int .i64 s.len, .int .i64 s.head, .int .i64 s.seq, .int .i64 at_, .int .i64 sq, .int .i64 us, .bool br, .bool nu] 77 :: blk b2 [.int .i64 s.epoch, .int .i64 sq, v1, u32 0] 100 :: blk b6 [.int .i64 im.num, .int .i64 im.kind, bv] 85 :: R)) 15 rfl (by kernel_rfl) (fun w' x' _ => ?_)
            have H' := H.ext0 x'; clear x' H; revert H'; generalize w' = w; intro H'
            have H : Sep z (blk pl [.pointer (some ⟨pd, 0, none⟩), .pointer (some ⟨pt, 0, none⟩), .int .i64 s.gen, .int .i64 s.epoch, .int .i64 s.pages, .int .i64 s.start, .int .i64 s.len, .int .i64 s.head, .int .i64 s.seq, .int .i64 at_, .int .i64 sq, .int .i64 us, .bool br, .bool nu] 77 :: blk b2 [.int .i64 s.epoch, .int .i64 sq, v1, u32 0] 100 :: blk b6 [.int .i64 im.num, .int .i64 im.kind, bv] 85 :: grow 5 1 v2 (i * 256) ((imgB s.epoch sq (ims.take i)).map u8) :: grow 3 1 v1 ims.length (nsC ims) :: mapB m1 (seen (ims.map Img.num)) ((ims.map Img.num).length) :: tblA pt :: imA A (.slice ao ims.length ic) es :: R) w := H'
            clear H'
            refine a_do 0 rfl (by kernel_rfl) (by kernel_rfl) (by kernel_rfl) rfl rfl rfl (d_move rfl rfl) (H.pick 8 [0, 1, 2] rfl) ?_
            refine a_do 1 rfl (by kernel_rfl) (by kernel_rfl) (by kernel_rfl) rfl rfl rfl (d_nilCheck rfl rfl) (H.pick 8 [0, 1, 2] rfl) ?_
            refine a_do 2 rfl (by kernel_rfl) (by kernel_rfl) (by kernel_rfl) rfl rfl rfl (d_field rfl (k := 1) (r := 1) (by kernel_rfl) rfl rfl) (H.pick 8 [0, 1, 2] rfl) ?_
            refine a_do 3 rfl (by kernel_rfl) (by kernel_rfl) (by kernel_rfl) rfl rfl rfl (d_load rfl rfl (by kernel_rfl) (fun _ hx => hx.cel 0 rfl 1 rfl)) (H.pick 8 [0, 1, 2] rfl) ?_
            refine a_do 4 rfl (by kernel_rfl) (by kernel_rfl) (by kernel_rfl) rfl rfl rfl (d_field rfl (k := 0) (r := 0) (by kernel_rfl) rfl rfl) (H.pick 8 [0, 1, 2] rfl) ?_
            refine a_do 5 rfl (by kernel_rfl) (by kernel_rfl) (by kernel_rfl) rfl rfl rfl (d_load rfl rfl (by kernel_rfl) (fun _ hx => hx.cel 1 rfl 0 rfl)) (H.pick 8 [0, 1, 2] rfl) ?_
            refine a_do 6 rfl (by kernel_rfl) (by kernel_rfl) (by kernel_rfl) rfl rfl rfl (d_field rfl (k := 1) (r := 1) (by kernel_rfl) rfl rfl) (H.pick 8 [0, 1, 2] rfl) ?_
            refine a_do 7 rfl (by kernel_rfl) (by kernel_rfl) (by kernel_rfl) rfl rfl rfl (d_load rfl rfl (by kernel_rfl) (fun _ hx => hx.cel 1 rfl 1 rfl)) (H.pick 8 [0, 1, 2] rfl) ?_
            refine a_do 8 rfl (by kernel_rfl) (by kernel_rfl) (by kernel_rfl) rfl rfl rfl (d_loadAgg rfl rfl (vs := [.int .i64 im.num, .int .i64 im.kind, bv]) (by kernel_rfl) (fun _ hx => (hx.blk 2 rfl).part 0 3 _ rfl)) (H.pick 8 [0, 1, 2] rfl) ?_
            refine a_all [9] (by kernel_rfl) (by simp) ?_
            refine all1 ?_
            refine o_callC rfl rfl rfl rfl rfl rfl (fun w => Tryz.call34 _ w) (putImage_c _ _ _ _ _ _ im.body _ (fun h q => q.2.2 _ (List.mem_of_getElem? he))) H 8 [6, 7, 0, 1, 2, 3, 4, 5] rfl rfl ?_
            rintro _ w _ (⟨hbad, rfl, rfl⟩ | ⟨hgood, pw, rfl, rfl⟩) H'
            · exact absurd ⟨by omega, by omega, hall i im (by omega) him⟩ hbad
            · -- a case
              have H : Sep z (blk pw (wrC (sect (imgL s.epoch sq im)) 252) 118 :: tblA pt :: imA A (.slice ao ims.length ic) es :: blk pl [.pointer (some ⟨pd, 0, none⟩), .pointer (some ⟨pt, 0, none⟩), .int .i64 s.gen, .int .i64 s.epoch, .int .i64 s.pages, .int .i64 s.start, .int .i64 s.len, .int .i64 s.head, .int .i64 s.seq, .int .i64 at_, .int .i64 sq, .int .i64 us, .bool br, .bool nu] 77 :: blk b2 [.int .i64 s.epoch, .int .i64 sq, v1, u32 0] 100 :: blk b6 [.int .i64 im.num, .int .i64 im.kind, bv] 85 :: grow 5 1 v2 (i * 256) ((imgB s.epoch sq (ims.take i)).map u8) :: grow 3 1 v1 ims.length (nsC ims) :: mapB m1 (seen (ims.map Img.num)) ((ims.map Img.num).length) :: R) w := H'
              clear H'
              refine a_and (H.pick 9 [3, 4, 5] rfl) ?_
              refine a_do 10 rfl (by kernel_rfl) (by kernel_rfl) (by kernel_rfl) rfl rfl rfl (d_move rfl rfl) (H.pick 9 [3, 4, 5] rfl) ?_
              refine a_do 11 rfl (by kernel_rfl) (by kernel_rfl) (by kernel_rfl) rfl rfl rfl (d_extract rfl rfl rfl) (H.pick 9 [3, 4, 5] rfl) ?_
              refine a_do 12 rfl (by kernel_rfl) (by kernel_rfl) (by kernel_rfl) rfl rfl rfl (d_extract rfl rfl rfl) (H.pick 9 [3, 4, 5] rfl) ?_
              refine a_do 13 rfl (by kernel_rfl) (by kernel_rfl) (by kernel_rfl) rfl rfl rfl (d_assign rfl rfl) (H.pick 9 [3, 4, 5] rfl) ?_
              refine a_do 14 rfl (by kernel_rfl) (by kernel_rfl) (by kernel_rfl) rfl rfl rfl (d_assign rfl rfl) (H.pick 9 [3, 4, 5] rfl) ?_
              refine a_done (by kernel_rfl) ?_
              refine k_seq ?_
              refine k_seq ?_
              refine s_region ?_
              refine s_do rfl rfl rfl (d_move rfl rfl) ?_
              refine s_do rfl rfl rfl (d_neq rfl rfl rfl) ?_
              refine k_updA 104 (u := .bool (decide ((0 : Int) ≠ 0))) (v := .bool false) rfl (congrArg Value.bool (by decide)) ?_
              refine s_end ?_
              refine k_false rfl ?_
              refine k_skip ?_
              refine s_region ?_
              refine s_do rfl rfl rfl (d_move rfl rfl) ?_
              refine s_do rfl rfl rfl (d_move rfl rfl) ?_
              refine s_go rfl rfl rfl (n_append 6 H rfl rfl (by kernel_rfl) (Elt.mk (P := Tryz.prog) (e := 5) (z := u8 0) (sz := 1) (by_ := 1) (by kernel_rfl) rfl (by omega) (by omega)) rfl rfl (H.rd 0 rfl (fun h q => wrC_rd (lo := 0) (n := 256) (c := 256) (ys := sect (imgL s.epoch sq im)) q (sect_len (Nat.le_of_eq (imgL_len hgood.2.2.2.2))) (by omega) (by omega) (by omega) (by rw [List.drop_zero]; exact List.take_of_length_le (Nat.le_of_eq (sect_len (Nat.le_of_eq (imgL_len hgood.2.2.2.2))))))) (by simp [u8, Value.oneCell']) (by omega)) ?_
              rintro v7 w H'
              have H' : Sep z (blk pw (wrC (sect (imgL s.epoch sq im)) 252) 118 :: tblA pt :: imA A (.slice ao ims.length ic) es :: blk pl [.pointer (some ⟨pd, 0, none⟩), .pointer (some ⟨pt, 0, none⟩), .int .i64 s.gen, .int .i64 s.epoch, .int .i64 s.pages, .int .i64 s.start, .int .i64 s.len, .int .i64 s.head, .int .i64 s.seq, .int .i64 at_, .int .i64 sq, .int .i64 us, .bool br, .bool nu] 77 :: blk b2 [.int .i64 s.epoch, .int .i64 sq, v1, u32 0] 100 :: blk b6 [.int .i64 im.num, .int .i64 im.kind, bv] 85 :: grow 5 1 v7 ((i * 256) + 256) ((imgB s.epoch sq (ims.take i)).map u8 ++ (sect (imgL s.epoch sq im)).map u8) :: grow 3 1 v1 ims.length (nsC ims) :: mapB m1 (seen (ims.map Img.num)) ((ims.map Img.num).length) :: R) w := H'
              have ev7 : ((imgB s.epoch sq (ims.take i)).map u8 ++ (sect (imgL s.epoch sq im)).map u8 : List Value) = (imgB s.epoch sq (ims.take (i + 1))).map u8 := (by rw [← List.map_append, imgB_snoc him])
              rw [ev7] at H'
              rw [show ((i * 256) + 256 : Nat) = (i + 1) * 256 from by omega] at H'
              have H : Sep z (blk pw (wrC (sect (imgL s.epoch sq im)) 252) 118 :: tblA pt :: imA A (.slice ao ims.length ic) es :: blk pl [.pointer (some ⟨pd, 0, none⟩), .pointer (some ⟨pt, 0, none⟩), .int .i64 s.gen, .int .i64 s.epoch, .int .i64 s.pages, .int .i64 s.start, .int .i64 s.len, .int .i64 s.head, .int .i64 s.seq, .int .i64 at_, .int .i64 sq, .int .i64 us, .bool br, .bool nu] 77 :: blk b2 [.int .i64 s.epoch, .int .i64 sq, v1, u32 0] 100 :: blk b6 [.int .i64 im.num, .int .i64 im.kind, bv] 85 :: grow 5 1 v7 ((i + 1) * 256) ((imgB s.epoch sq (ims.take (i + 1))).map u8) :: grow 3 1 v1 ims.length (nsC ims) :: mapB m1 (seen (ims.map Img.num)) ((ims.map Img.num).length) :: R) w := H'
              clear H'
              have sv7 := H.says 6 rfl (fun h q => q.slc)
              refine s_do rfl rfl rfl (d_assign rfl rfl) ?_
              refine s_end ?_
              refine s_region ?_
              refine s_do rfl rfl rfl (d_add64 rfl rfl rfl (r := (i : Int) + 1) (by omega) (by omega)) ?_
              refine s_do rfl rfl rfl (d_move rfl rfl) ?_
              refine s_end ?_
              have H' := H.pick 9 [6, 3, 7, 4, 8, 1, 2] rfl
              have H : Sep z (grow 5 1 v7 ((i + 1) * 256) ((imgB s.epoch sq (ims.take (i + 1))).map u8) :: blk pl [.pointer (some ⟨pd, 0, none⟩), .pointer (some ⟨pt, 0, none⟩), .int .i64 s.gen, .int .i64 s.epoch, .int .i64 s.pages, .int .i64 s.start, .int .i64 s.len, .int .i64 s.head, .int .i64 s.seq, .int .i64 at_, .int .i64 sq, .int .i64 us, .bool br, .bool nu] 77 :: grow 3 1 v1 ims.length (nsC ims) :: blk b2 [.int .i64 s.epoch, .int .i64 sq, v1, u32 0] 100 :: mapB m1 (seen (ims.map Img.num)) ((ims.map Img.num).length) :: tblA pt :: imA A (.slice ao ims.length ic) es :: R) w := H'
              clear H'
              intro _ hF
              refine ⟨⟨i + 1, v7⟩, (hF.cons (hF.cons (hF.cons (hF.cons (hF.cons (hF.cons hF.nil 85 _ _ rfl rfl) 84 _ _ rfl rfl) 8 _ _ rfl rfl) 0 _ _ rfl rfl) 6 _ _ rfl rfl) 86 _ _ rfl (by go_num)), ⟨H, ?_⟩, ?_⟩
              · dsimp only; omega
              · (dsimp only; omega)
          · -- no: (i : Int) < (ims.length : Int)
            obtain rfl : i = ims.length := by omega
            refine k_exit ?_
            refine k_here ?_
            refine k_seq ?_
            rw [List.take_length] at H
            have H : Sep z (grow 5 1 v2 (ims.length * 256) ((imgB s.epoch sq ims).map u8) :: blk pl [.pointer (some ⟨pd, 0, none⟩), .pointer (some ⟨pt, 0, none⟩), .int .i64 s.gen, .int .i64 s.epoch, .int .i64 s.pages, .int .i64 s.start, .int .i64 s.len, .int .i64 s.head, .int .i64 s.seq, .int .i64 at_, .int .i64 sq, .int .i64 us, .bool br, .bool nu] 77 :: grow 3 1 v1 ims.length (nsC ims) :: blk b2 [.int .i64 s.epoch, .int .i64 sq, v1, u32 0] 100 :: mapB m1 (seen (ims.map Img.num)) ((ims.map Img.num).length) :: tblA pt :: imA A (.slice ao ims.length ic) es :: R) w := H
            refine s_region ?_
            refine s_do rfl rfl rfl (d_move rfl rfl) ?_
            refine s_do rfl rfl rfl (d_nilCheck rfl rfl) ?_
            refine s_do rfl rfl rfl (d_field rfl (k := 1) (r := 1) (by kernel_rfl) rfl rfl) ?_
            refine s_do rfl rfl rfl (d_load rfl rfl (by kernel_rfl) (here (H.cel 1 rfl 1 rfl))) ?_
            refine s_do rfl rfl rfl (d_move rfl rfl) ?_
            refine s_callC rfl rfl rfl rfl rfl (fun w => Tryz.call35 _ w) (sum_c _ _ _ (imgB s.epoch sq ims) (imgB_len hallm) _ (fun h q => q.rd)) H 6 [5, 0, 1, 2, 3, 4] rfl rfl ?_
            rintro _ w _ ⟨rfl, rfl⟩ H'
            have H : Sep z (tblA pt :: grow 5 1 v2 (ims.length * 256) ((imgB s.epoch sq ims).map u8) :: blk pl [.pointer (some ⟨pd, 0, none⟩), .pointer (some ⟨pt, 0, none⟩), .int .i64 s.gen, .int .i64 s.epoch, .int .i64 s.pages, .int .i64 s.start, .int .i64 s.len, .int .i64 s.head, .int .i64 s.seq, .int .i64 at_, .int .i64 sq, .int .i64 us, .bool br, .bool nu] 77 :: grow 3 1 v1 ims.length (nsC ims) :: blk b2 [.int .i64 s.epoch, .int .i64 sq, v1, u32 0] 100 :: mapB m1 (seen (ims.map Img.num)) ((ims.map Img.num).length) :: imA A (.slice ao ims.length ic) es :: R) w := H'
            clear H'
            refine s_do rfl rfl rfl (d_field rfl (k := 3) (r := 3) (by kernel_rfl) rfl rfl) ?_
            refine s_put rfl rfl (n_store 4 H rfl rfl rfl rfl (vs := [u32 (crcSum (imgB s.epoch sq ims))]) rfl (by simp [u8, u32, Value.oneCell']) (by kernel_rfl) (by simp) (out := [.int .i64 s.epoch, .int .i64 sq, v1, u32 (crcSum (imgB s.epoch sq ims))]) rfl) ?_
            rintro w H'
            have H : Sep z (tblA pt :: grow 5 1 v2 (ims.length * 256) ((imgB s.epoch sq ims).map u8) :: blk pl [.pointer (some ⟨pd, 0, none⟩), .pointer (some ⟨pt, 0, none⟩), .int .i64 s.gen, .int .i64 s.epoch, .int .i64 s.pages, .int .i64 s.start, .int .i64 s.len, .int .i64 s.head, .int .i64 s.seq, .int .i64 at_, .int .i64 sq, .int .i64 us, .bool br, .bool nu] 77 :: grow 3 1 v1 ims.length (nsC ims) :: blk b2 [.int .i64 s.epoch, .int .i64 sq, v1, u32 (crcSum (imgB s.epoch sq ims))] 100 :: mapB m1 (seen (ims.map Img.num)) ((ims.map Img.num).length) :: imA A (.slice ao ims.length ic) es :: R) w := H'
            clear H'
            refine s_end ?_
            refine k_seq ?_
            have H' := H.pick 7 [2, 4, 0, 1, 3, 5, 6] rfl
            have H : Sep z (blk pl [.pointer (some ⟨pd, 0, none⟩), .pointer (some ⟨pt, 0, none⟩), .int .i64 s.gen, .int .i64 s.epoch, .int .i64 s.pages, .int .i64 s.start, .int .i64 s.len, .int .i64 s.head, .int .i64 s.seq, .int .i64 at_, .int .i64 sq, .int .i64 us, .bool br, .bool nu] 77 :: blk b2 [.int .i64 s.epoch, .int .i64 sq, v1, u32 (crcSum (imgB s.epoch sq ims))] 100 :: tblA pt :: grow 5 1 v2 (ims.length * 256) ((imgB s.epoch sq ims).map u8) :: grow 3 1 v1 ims.length (nsC ims) :: mapB m1 (seen (ims.map Img.num)) ((ims.map Img.num).length) :: imA A (.slice ao ims.length ic) es :: R) w := H'
            clear H'
            refine a_region (Sep z (blk pl [.pointer (some ⟨pd, 0, none⟩), .pointer (some ⟨pt, 0, none⟩), .int .i64 s.gen, .int .i64 s.epoch, .int .i64 s.pages, .int .i64 s.start, .int .i64 s.len, .int .i64 s.head, .int .i64 s.seq, .int .i64 at_, .int .i64 sq, .int .i64 us, .bool br, .bool nu] 77 :: blk b2 [.int .i64 s.epoch, .int .i64 sq, v1, u32 (crcSum (imgB s.epoch sq ims))] 100 :: R)) 11 rfl (by kernel_rfl) (fun w' x' _ => ?_)
            have H' := H.ext0 x'; clear x' H; revert H'; generalize w' = w; intro H'
            have H : Sep z (blk pl [.pointer (some ⟨pd, 0, none⟩), .pointer (some ⟨pt, 0, none⟩), .int .i64 s.gen, .int .i64 s.epoch, .int .i64 s.pages, .int .i64 s.start, .int .i64 s.len, .int .i64 s.head, .int .i64 s.seq, .int .i64 at_, .int .i64 sq, .int .i64 us, .bool br, .bool nu] 77 :: blk b2 [.int .i64 s.epoch, .int .i64 sq, v1, u32 (crcSum (imgB s.epoch sq ims))] 100 :: tblA pt :: grow 5 1 v2 (ims.length * 256) ((imgB s.epoch sq ims).map u8) :: grow 3 1 v1 ims.length (nsC ims) :: mapB m1 (seen (ims.map Img.num)) ((ims.map Img.num).length) :: imA A (.slice ao ims.length ic) es :: R) w := H'
            clear H'
            refine a_do 0 rfl (by kernel_rfl) (by kernel_rfl) (by kernel_rfl) rfl rfl rfl (d_move rfl rfl) (H.pick 7 [0, 1] rfl) ?_
            refine a_do 1 rfl (by kernel_rfl) (by kernel_rfl) (by kernel_rfl) rfl rfl rfl (d_nilCheck rfl rfl) (H.pick 7 [0, 1] rfl) ?_
            refine a_do 2 rfl (by kernel_rfl) (by kernel_rfl) (by kernel_rfl) rfl rfl rfl (d_field rfl (k := 1) (r := 1) (by kernel_rfl) rfl rfl) (H.pick 7 [0, 1] rfl) ?_
            refine a_do 3 rfl (by kernel_rfl) (by kernel_rfl) (by kernel_rfl) rfl rfl rfl (d_load rfl rfl (by kernel_rfl) (fun _ hx => hx.cel 0 rfl 1 rfl)) (H.pick 7 [0, 1] rfl) ?_
            refine a_do 4 rfl (by kernel_rfl) (by kernel_rfl) (by kernel_rfl) rfl rfl rfl (d_loadAgg rfl rfl (vs := [.int .i64 s.epoch, .int .i64 sq, v1, u32 (crcSum (imgB s.epoch sq ims))]) (by kernel_rfl) (fun _ hx => (hx.blk 1 rfl).part 0 4 _ rfl)) (H.pick 7 [0, 1] rfl) ?_
            refine a_all [5] (by kernel_rfl) (by simp) ?_
            refine all1 ?_
            refine o_callC rfl rfl rfl rfl rfl rfl (fun w => Tryz.call36 _ w) (putHead_c _ _ _ _ _ (ims.map Img.num) _ (fun h q => by rw [List.length_map, ← nsC_map]; exact q.rd)) H 5 [2, 4, 0, 1, 3] rfl rfl ?_
            rintro _ w _ (⟨hbad, rfl, rfl⟩ | ⟨hgood, pw, rfl, rfl⟩) H'
            · exact absurd ⟨by omega, by omega, by simp; omega, fun x hx => by obtain ⟨m, hm, rfl⟩ := List.mem_map.1 hx; exact (hallm m hm).1⟩ hbad
            · -- a case
              have H : Sep z (blk pw (wrC (sect (hdL s.epoch sq ims)) ((26 + 4 * (ims.map Img.num).length : Nat) : Int)) 118 :: tblA pt :: grow 3 1 v1 ims.length (nsC ims) :: blk pl [.pointer (some ⟨pd, 0, none⟩), .pointer (some ⟨pt, 0, none⟩), .int .i64 s.gen, .int .i64 s.epoch, .int .i64 s.pages, .int .i64 s.start, .int .i64 s.len, .int .i64 s.head, .int .i64 s.seq, .int .i64 at_, .int .i64 sq, .int .i64 us, .bool br, .bool nu] 77 :: blk b2 [.int .i64 s.epoch, .int .i64 sq, v1, u32 (crcSum (imgB s.epoch sq ims))] 100 :: grow 5 1 v2 (ims.length * 256) ((imgB s.epoch sq ims).map u8) :: mapB m1 (seen (ims.map Img.num)) ((ims.map Img.num).length) :: imA A (.slice ao ims.length ic) es :: R) w := H'
              clear H'
              refine a_and (H.pick 8 [3, 4] rfl) ?_
              refine a_do 6 rfl (by kernel_rfl) (by kernel_rfl) (by kernel_rfl) rfl rfl rfl (d_move rfl rfl) (H.pick 8 [3, 4] rfl) ?_
              refine a_do 7 rfl (by kernel_rfl) (by kernel_rfl) (by kernel_rfl) rfl rfl rfl (d_extract rfl rfl rfl) (H.pick 8 [3, 4] rfl) ?_
              refine a_do 8 rfl (by kernel_rfl) (by kernel_rfl) (by kernel_rfl) rfl rfl rfl (d_extract rfl rfl rfl) (H.pick 8 [3, 4] rfl) ?_
              refine a_do 9 rfl (by kernel_rfl) (by kernel_rfl) (by kernel_rfl) rfl rfl rfl (d_assign rfl rfl) (H.pick 8 [3, 4] rfl) ?_
              refine a_do 10 rfl (by kernel_rfl) (by kernel_rfl) (by kernel_rfl) rfl rfl rfl (d_assign rfl rfl) (H.pick 8 [3, 4] rfl) ?_
              refine a_done (by kernel_rfl) ?_
              refine k_seq ?_
              refine s_region ?_
              refine s_do rfl rfl rfl (d_move rfl rfl) ?_
              refine s_do rfl rfl rfl (d_move rfl rfl) ?_
              refine s_go rfl rfl rfl (n_appendF H rfl (by kernel_rfl) (Elt.mk (P := Tryz.prog) (e := 5) (z := u8 0) (sz := 1) (by_ := 1) (by kernel_rfl) rfl (by omega) (by omega)) rfl rfl (H.rd 0 rfl (fun h q => wrC_rd (lo := 0) (n := 256) (c := 256) (ys := sect (hdL s.epoch sq ims)) q (sect_len (by rw [hdL_len]; omega)) (by omega) (by omega) (by omega) (by rw [List.drop_zero]; exact List.take_of_length_le (Nat.le_of_eq (sect_len (by rw [hdL_len]; omega)))))) (H.rd 5 rfl (fun h q => q.rd)) (by omega) (by simp [u8, Value.oneCell']) (by omega)) ?_
              rintro v8 w H'
              have H' : Sep z (grow 5 1 v8 (256 + (ims.length * 256)) ((sect (hdL s.epoch sq ims)).map u8 ++ (imgB s.epoch sq ims).map u8) :: blk pw (wrC (sect (hdL s.epoch sq ims)) ((26 + 4 * (ims.map Img.num).length : Nat) : Int)) 118 :: tblA pt :: grow 3 1 v1 ims.length (nsC ims) :: blk pl [.pointer (some ⟨pd, 0, none⟩), .pointer (some ⟨pt, 0, none⟩), .int .i64 s.gen, .int .i64 s.epoch, .int .i64 s.pages, .int .i64 s.start, .int .i64 s.len, .int .i64 s.head, .int .i64 s.seq, .int .i64 at_, .int .i64 sq, .int .i64 us, .bool br, .bool nu] 77 :: blk b2 [.int .i64 s.epoch, .int .i64 sq, v1, u32 (crcSum (imgB s.epoch sq ims))] 100 :: grow 5 1 v2 (ims.length * 256) ((imgB s.epoch sq ims).map u8) :: mapB m1 (seen (ims.map Img.num)) ((ims.map Img.num).length) :: imA A (.slice ao ims.length ic) es :: R) w := H'
              rw [show ((sect (hdL s.epoch sq ims)).map u8 ++ (imgB s.epoch sq ims).map u8 : List Value) = (recB s.epoch sq ims).flatten.map u8 from (by rw [← List.map_append, recB_flat])] at H'
              rw [show (256 + (ims.length * 256) : Nat) = (1 + ims.length) * 256 from by omega] at H'
              have H : Sep z (grow 5 1 v8 ((1 + ims.length) * 256) ((recB s.epoch sq ims).flatten.map u8) :: blk pw (wrC (sect (hdL s.epoch sq ims)) ((26 + 4 * (ims.map Img.num).length : Nat) : Int)) 118 :: tblA pt :: grow 3 1 v1 ims.length (nsC ims) :: blk pl [.pointer (some ⟨pd, 0, none⟩), .pointer (some ⟨pt, 0, none⟩), .int .i64 s.gen, .int .i64 s.epoch, .int .i64 s.pages, .int .i64 s.start, .int .i64 s.len, .int .i64 s.head, .int .i64 s.seq, .int .i64 at_, .int .i64 sq, .int .i64 us, .bool br, .bool nu] 77 :: blk b2 [.int .i64 s.epoch, .int .i64 sq, v1, u32 (crcSum (imgB s.epoch sq ims))] 100 :: grow 5 1 v2 (ims.length * 256) ((imgB s.epoch sq ims).map u8) :: mapB m1 (seen (ims.map Img.num)) ((ims.map Img.num).length) :: imA A (.slice ao ims.length ic) es :: R) w := H'
              clear H'
              have sv8 := H.says 0 rfl (fun h q => q.slc)
              refine s_do rfl rfl rfl (d_move rfl rfl) ?_
              refine s_do rfl rfl rfl (d_assign rfl rfl) ?_
              refine s_do rfl rfl rfl (d_assign rfl rfl) ?_
              refine s_end ?_
              refine k_ret ?_
              refine doneL rfl [v8, .int .i64 0] ⟨rfl, ⟨rfl, trivial⟩⟩ (v := .tuple #[v8, .int .i64 0]) rfl ?_
              have H' := H.mono 8 (B := A) rfl (fun h q => q.1)
              have H : Sep z (grow 5 1 v8 ((1 + ims.length) * 256) ((recB s.epoch sq ims).flatten.map u8) :: blk pw (wrC (sect (hdL s.epoch sq ims)) ((26 + 4 * (ims.map Img.num).length : Nat) : Int)) 118 :: tblA pt :: grow 3 1 v1 ims.length (nsC ims) :: blk pl [.pointer (some ⟨pd, 0, none⟩), .pointer (some ⟨pt, 0, none⟩), .int .i64 s.gen, .int .i64 s.epoch, .int .i64 s.pages, .int .i64 s.start, .int .i64 s.len, .int .i64 s.head, .int .i64 s.seq, .int .i64 at_, .int .i64 sq, .int .i64 us, .bool br, .bool nu] 77 :: blk b2 [.int .i64 s.epoch, .int .i64 sq, v1, u32 (crcSum (imgB s.epoch sq ims))] 100 :: grow 5 1 v2 (ims.length * 256) ((imgB s.epoch sq ims).map u8) :: mapB m1 (seen (ims.map Img.num)) ((ims.map Img.num).length) :: A :: R) w := H'
              clear H'
              exact ⟨[grow 5 1 v8 ((1 + ims.length) * 256) ((recB s.epoch sq ims).flatten.map u8), blk pl [.pointer (some ⟨pd, 0, none⟩), .pointer (some ⟨pt, 0, none⟩), .int .i64 s.gen, .int .i64 s.epoch, .int .i64 s.pages, .int .i64 s.start, .int .i64 s.len, .int .i64 s.head, .int .i64 s.seq, .int .i64 at_, .int .i64 sq, .int .i64 us, .bool br, .bool nu] 77, tblA pt, A], .inr (.inr ⟨⟨hallm, hnd⟩, ⟨by omega, by first | assumption | simp_all, by omega⟩, v8, rfl, rfl⟩), H.perm 9 [0, 4, 2, 8] rfl rfl⟩
end Go.Proofs.YtanejicgmgpjcaaGreatDoor
