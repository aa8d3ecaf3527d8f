/-
  Walks: the law LogInside. No condition.
-/
import Derived.Test.YtanejicgmgpjcaaGreatDoorLogZF
set_option maxRecDepth 100000
namespace Go.Proofs.YtanejicgmgpjcaaGreatDoor
open Go.RowKit

def sI (h : Int) : Sup := ⟨1, 1, 16, 20, 64, h, 0⟩
theorem sI_f (h : Int) : (sI h).gen = 1 ∧ (sI h).epoch = 1 ∧ (sI h).pages = 16 ∧ (sI h).start = 20 ∧ (sI h).len = 64 ∧ (sI h).head = h ∧ (sI h).seq = 0 := ⟨rfl, rfl, rfl, rfl, rfl, rfl, rfl⟩
theorem sI_ok {h : Int} (hh : 0 ≤ h ∧ h < 64) : (sI h).Ok 100 := by
  have hs := sI_f h
  refine ⟨fun x hx => ?_, by omega, by omega, by omega, by omega, by omega, by omega, by omega⟩
  simp only [Sup.list, List.mem_cons, List.not_mem_nil, or_false] at hx
  omega
/-- nothing but the ring was written -/
def InD (D : Dsk) (i : Nat) : Prop := D.n = 100 ∧ (∀ j : Nat, ¬ (20 ≤ j ∧ j < 84) → D.ver j = []) ∧ ∀ j, (D.ver j).length ≤ 2 * i
theorem InD.new : InD (newD 100) 0 := ⟨rfl, fun _ _ => rfl, fun _ => by simp [newD]⟩
theorem InD.ins {D D' : Dsk} {i : Nat} {h : Int} (hD : InD D i) (hI : Ins (sI h) D D') : InD D' (i + 1) := by
  have hs := sI_f h
  refine ⟨hI.1.trans hD.1, fun j hj => (hI.2.1 j (by omega)).trans (hD.2.1 j hj), fun j => ?_⟩
  have h1 := hI.2.2 j
  have h2 := hD.2.2 j
  omega
theorem InD.le {D : Dsk} {i i' : Nat} (hD : InD D i) (h : i ≤ i') : InD D i' := ⟨hD.1, hD.2.1, fun j => Nat.le_trans (hD.2.2 j) (by omega)⟩
theorem InD.f {D : Dsk} {i : Nat} (hD : InD D i) (x : Int) : InD { D with f2 := x } i := hD
theorem InD.key {D : Dsk} {i : Nat} (hD : InD D i) {k : Int} (hk : 0 ≤ k ∧ k < D.n ∧ D.ver k.toNat ≠ []) : 20 ≤ k ∧ k < 84 := by
  rcases Decidable.em (20 ≤ k.toNat ∧ k.toNat < 84) with h | h
  · omega
  · exact absurd (hD.2.1 _ h) hk.2.2
set_option maxHeartbeats 4000000 in
theorem logInside_c (hd : Int) (v : Value) (es : List OpE) (hes : es.length ≤ 1000000000) (A : Asn) (hA : ∀ h, A h → rdH 7 v es.length (opC es) h ∧ opsOk es h) : Cn Tryz.prog 3 [.int .i64 hd, v] [A] (fun v Γ => v = .bool true ∧ Γ = [A]) := by
  intro z R w H'
  have H : Sep z (A :: R) w := H'
  clear H'
  obtain ⟨ao, oc, rfl⟩ := H.says 0 rfl (fun h q => (hA h q).1.slc)
  refine enter Tryz.func3 rfl 104 Tryz.ntmps3 rfl ?_
  refine k_seq ?_
  refine s_region ?_
  refine s_do rfl rfl rfl (d_assign rfl rfl) ?_
  refine s_end ?_
  refine k_seq ?_
  refine s_region ?_
  refine s_callC rfl rfl rfl rfl rfl (fun w => Tryz.call5 _ w) (crcnew_c ) H 0 [] rfl rfl ?_
  rintro _ w _ ⟨pt, rfl, rfl⟩ H'
  have H : Sep z (tblA pt :: A :: R) w := H'
  clear H'
  refine s_do rfl rfl rfl (d_assign rfl rfl) ?_
  refine s_end ?_
  refine k_seq ?_
  refine s_region ?_
  refine s_callC rfl rfl rfl rfl rfl (fun w => Tryz.call6 _ w) (dnew_c 100) H 0 [] rfl rfl ?_
  rintro _ w _ (⟨hn, rfl, rfl⟩ | ⟨_, pd, rfl, rfl⟩) H'
  · exact absurd (by omega) hn
  · -- a case
    have H : Sep z (diskA pd (newD 100) :: tblA pt :: A :: R) w := H'
    clear H'
    refine s_do rfl rfl rfl (d_move rfl rfl) ?_
    refine s_do rfl rfl rfl (d_extract rfl rfl rfl) ?_
    refine s_do rfl rfl rfl (d_extract rfl rfl rfl) ?_
    refine s_do rfl rfl rfl (d_assign rfl rfl) ?_
    refine s_do rfl rfl rfl (d_assign rfl rfl) ?_
    refine s_end ?_
    refine k_seq ?_
    refine k_seq ?_
    refine s_region ?_
    refine s_do rfl rfl rfl (d_move rfl rfl) ?_
    refine s_do rfl rfl rfl (d_neq rfl rfl rfl) ?_
    refine k_updA 19 (u := .bool (decide ((0 : Int) ≠ 0))) (v := .bool false) rfl (congrArg Value.bool (by decide)) ?_
    refine s_do rfl rfl rfl (d_move rfl rfl) ?_
    refine s_do rfl rfl rfl (d_move rfl rfl) ?_
    refine s_do rfl rfl rfl (d_eql_pn rfl (by kernel_rfl) rfl rfl) ?_
    refine s_do rfl rfl rfl (d_pick_f rfl rfl rfl) ?_
    refine s_do rfl rfl rfl (d_move rfl rfl) ?_
    refine s_do rfl rfl rfl (d_move rfl rfl) ?_
    refine s_callC rfl rfl rfl rfl rfl (fun w => Tryz.call7 _ w) (known_c _) H 2 [1, 0] rfl rfl ?_
    rintro _ w _ ⟨rfl, rfl⟩ H'
    have H : Sep z (tblA pt :: diskA pd (newD 100) :: A :: R) w := H'
    clear H'
    refine s_do rfl rfl rfl (d_not rfl rfl) ?_
    refine s_do rfl rfl rfl (d_pick_f rfl rfl rfl) ?_
    refine s_end ?_
    refine k_false rfl ?_
    refine k_skip ?_
    refine k_seq ?_
    refine s_region ?_
    refine s_do rfl rfl rfl (d_move rfl rfl) ?_
    refine s_do rfl rfl rfl (d_rem rfl rfl rfl (by decide)) ?_
    refine s_do rfl rfl rfl (d_assign rfl rfl) ?_
    refine s_end ?_
    refine k_cut (fun a w => ∃ (hh : Int), Fr 104 [] [(8, .int .i64 hh), (0, .int .i64 hd), (1, .slice ao es.length oc), (4, .bool false), (5, .pointer (some ⟨pt, 0, none⟩)), (6, .pointer (some ⟨pd, 0, none⟩)), (7, .int .i64 0), (13, .pointer (some ⟨pt, 0, none⟩)), (14, .tuple #[.pointer (some ⟨pd, 0, none⟩), .int .i64 0]), (15, .tuple #[.pointer (some ⟨pd, 0, none⟩), .int .i64 0]), (16, .pointer (some ⟨pd, 0, none⟩)), (17, .int .i64 0), (18, .int .i64 0), (19, .bool false), (20, .bool false), (21, .pointer (some ⟨pd, 0, none⟩)), (22, .bool false), (23, .bool false), (24, .bool false), (25, .pointer (some ⟨pt, 0, none⟩)), (26, .bool true), (27, .bool false), (28, .bool false), (29, .int .i64 hd), (30, .int .i64 (hd.tmod 64))] a ∧ Sep z (tblA pt :: diskA pd (newD 100) :: A :: R) w ∧ (0 ≤ hh ∧ hh < 64)) ?_ ?_
    · -- 6
      refine k_seq ?_
      have hm1 := Int.tmod_lt_of_pos hd (by decide : (0 : Int) < 64)
      have hm2 := Int.lt_tmod_of_pos hd (by decide : (0 : Int) < 64)
      refine s_region ?_
      refine s_do rfl rfl rfl (d_move rfl rfl) ?_
      refine s_do rfl rfl rfl (d_lss rfl rfl rfl) ?_
      refine s_end ?_
      refine k_dec rfl (fun h1 => ?_) (fun h1 => ?_)
      · -- yes: (hd.tmod 64 : Int) < 0
        refine s_region ?_
        refine s_do rfl rfl rfl (d_move rfl rfl) ?_
        refine s_do rfl rfl rfl (d_add64 rfl rfl rfl (r := (hd.tmod 64) + 64) (by omega) (by omega)) ?_
        refine s_do rfl rfl rfl (d_assign rfl rfl) ?_
        refine s_end ?_
        exact fun _ hF => ⟨((hd.tmod 64) + 64), (hF.cons (hF.cons (hF.cons (hF.cons (hF.cons (hF.cons (hF.cons (hF.cons (hF.cons (hF.cons (hF.cons (hF.cons (hF.cons (hF.cons (hF.cons (hF.cons (hF.cons (hF.cons (hF.cons (hF.cons (hF.cons (hF.cons (hF.cons (hF.cons (hF.cons hF.nil 30 _ _ rfl rfl) 29 _ _ rfl rfl) 28 _ _ rfl rfl) 27 _ _ rfl rfl) 26 _ _ rfl rfl) 25 _ _ rfl rfl) 24 _ _ rfl rfl) 23 _ _ rfl rfl) 22 _ _ rfl rfl) 21 _ _ rfl rfl) 20 _ _ rfl rfl) 19 _ _ rfl rfl) 18 _ _ rfl rfl) 17 _ _ rfl rfl) 16 _ _ rfl rfl) 15 _ _ rfl rfl) 14 _ _ rfl rfl) 13 _ _ rfl rfl) 7 _ _ rfl rfl) 6 _ _ rfl rfl) 5 _ _ rfl rfl) 4 _ _ rfl rfl) 1 _ _ rfl rfl) 0 _ _ rfl rfl) 8 _ _ rfl rfl), H, (by omega)⟩
      · -- no: (hd.tmod 64 : Int) < 0
        refine k_skip ?_
        exact fun _ hF => ⟨(hd.tmod 64), (hF.cons (hF.cons (hF.cons (hF.cons (hF.cons (hF.cons (hF.cons (hF.cons (hF.cons (hF.cons (hF.cons (hF.cons (hF.cons (hF.cons (hF.cons (hF.cons (hF.cons (hF.cons (hF.cons (hF.cons (hF.cons (hF.cons (hF.cons (hF.cons (hF.cons hF.nil 30 _ _ rfl rfl) 29 _ _ rfl rfl) 28 _ _ rfl rfl) 27 _ _ rfl rfl) 26 _ _ rfl rfl) 25 _ _ rfl rfl) 24 _ _ rfl rfl) 23 _ _ rfl rfl) 22 _ _ rfl rfl) 21 _ _ rfl rfl) 20 _ _ rfl rfl) 19 _ _ rfl rfl) 18 _ _ rfl rfl) 17 _ _ rfl rfl) 16 _ _ rfl rfl) 15 _ _ rfl rfl) 14 _ _ rfl rfl) 13 _ _ rfl rfl) 7 _ _ rfl rfl) 6 _ _ rfl rfl) 5 _ _ rfl rfl) 4 _ _ rfl rfl) 1 _ _ rfl rfl) 0 _ _ rfl rfl) 8 _ _ rfl rfl), H, (by omega)⟩
    rintro a w ⟨hh, hF, H, hI⟩
    revert a
    refine k_seq ?_
    have hsI := sI_f hh
    have hok : (sI hh).Ok (100 : Int) := sI_ok (by omega)
    refine s_region ?_
    refine s_do rfl rfl rfl (d_move rfl rfl) ?_
    refine s_do rfl rfl rfl (d_move rfl rfl) ?_
    refine s_do rfl rfl rfl (d_move rfl rfl) ?_
    refine s_do rfl rfl rfl (d_build rfl rfl (out := [.int .i64 1, .int .i64 1, .int .i64 16, .int .i64 20, .int .i64 64, .int .i64 hh, .int .i64 0]) (by kernel_rfl)) ?_
    refine s_callC rfl rfl rfl rfl rfl (fun w => Tryz.call8 _ w) (lnewD_c _ _ _ (sI hh) hok) H 2 [1, 0] rfl rfl ?_
    rintro _ w _ ⟨pl, rfl, rfl⟩ H'
    have H : Sep z (blk pl [.pointer (some ⟨pd, 0, none⟩), .pointer (some ⟨pt, 0, none⟩), .int .i64 ((sI hh).gen), .int .i64 ((sI hh).epoch), .int .i64 ((sI hh).pages), .int .i64 ((sI hh).start), .int .i64 ((sI hh).len), .int .i64 ((sI hh).head), .int .i64 ((sI hh).seq), .int .i64 ((sI hh).head), .int .i64 ((sI hh).seq), .int .i64 0, .bool false, .bool (decide ((sI hh).epoch < 4294967296))] 77 :: diskA pd (newD 100) :: tblA pt :: A :: R) w := H'
    clear H'
    refine s_do rfl rfl rfl (d_assign rfl rfl) ?_
    refine s_end ?_
    refine k_seq ?_
    refine k_seq ?_
    refine s_region ?_
    refine s_do rfl rfl rfl (d_move rfl rfl) ?_
    refine s_do rfl rfl rfl (d_eql_pn rfl (by kernel_rfl) rfl rfl) ?_
    refine s_end ?_
    refine k_false rfl ?_
    refine k_skip ?_
    refine k_seq ?_
    refine k_seq ?_
    refine s_region ?_
    refine s_do rfl rfl rfl (d_assign rfl rfl) ?_
    refine s_end ?_
    refine k_block ?_
    refine c_loop (σ := Nat × Dsk × Int × Int × Int × Bool) (fun ⟨i, D, a, q, u, b⟩ => [(10, .int .i64 (i : Int)), (1, .slice ao es.length oc), (4, .bool false), (6, .pointer (some ⟨pd, 0, none⟩)), (9, .pointer (some ⟨pl, 0, none⟩))])
      (fun ⟨i, D, a, q, u, b⟩ w => Sep z (blk pl [.pointer (some ⟨pd, 0, none⟩), .pointer (some ⟨pt, 0, none⟩), .int .i64 ((sI hh).gen), .int .i64 ((sI hh).epoch), .int .i64 ((sI hh).pages), .int .i64 ((sI hh).start), .int .i64 ((sI hh).len), .int .i64 ((sI hh).head), .int .i64 ((sI hh).seq), .int .i64 a, .int .i64 q, .int .i64 u, .bool b, .bool (decide ((sI hh).epoch < 4294967296))] 77 :: diskA pd D :: tblA pt :: A :: R) w ∧ (i ≤ es.length ∧ InD D i ∧ (0 ≤ a ∧ a < 64) ∧ (0 ≤ q ∧ q ≤ i) ∧ (0 ≤ u ∧ u ≤ 64))) (fun ⟨i, D, a, q, u, b⟩ => es.length - i) ⟨0, newD 100, (sI hh).head, (sI hh).seq, 0, false⟩
      (fun _ hF => (hF.cons (hF.cons (hF.cons (hF.cons (hF.cons hF.nil 9 _ _ rfl rfl) 6 _ _ rfl rfl) 4 _ _ rfl rfl) 1 _ _ rfl rfl) 10 _ _ rfl (by go_num))) ⟨H, by omega, InD.new, by omega, by omega, by omega⟩ ?_
    clear H; rintro ⟨i, D, a, q, u, b⟩ w ⟨H', hI⟩
    dsimp only at hI H' ⊢
    have H : Sep z (blk pl [.pointer (some ⟨pd, 0, none⟩), .pointer (some ⟨pt, 0, none⟩), .int .i64 ((sI hh).gen), .int .i64 ((sI hh).epoch), .int .i64 ((sI hh).pages), .int .i64 ((sI hh).start), .int .i64 ((sI hh).len), .int .i64 ((sI hh).head), .int .i64 ((sI hh).seq), .int .i64 a, .int .i64 q, .int .i64 u, .bool b, .bool (decide ((sI hh).epoch < 4294967296))] 77 :: diskA pd D :: tblA pt :: A :: R) w := H'
    clear H'
    obtain ⟨hin, hD, ha, hq, hu⟩ := hI
    refine k_seq ?_
    refine k_seq ?_
    refine s_region ?_
    refine s_do rfl rfl rfl (d_move rfl rfl) ?_
    refine s_do rfl rfl rfl (d_move rfl rfl) ?_
    refine s_do rfl rfl rfl (d_len rfl (z := 7) (by kernel_rfl) rfl) ?_
    refine s_do rfl rfl rfl (d_lss rfl rfl rfl) ?_
    refine s_end ?_
    refine k_dec rfl (fun h2 => ?_) (fun h2 => ?_)
    · -- yes: (i : Int) < (es.length : Int)
      refine k_skip ?_
      refine k_seq ?_
      refine k_block ?_
      refine k_seq ?_
      refine s_region ?_
      have hlt : i < es.length := by omega
      obtain ⟨⟨om, pv, kv⟩, he⟩ : ∃ e : OpE, es[i]? = some e := ⟨_, List.getElem?_eq_getElem (by omega)⟩
      have hopi := H.says 3 rfl (fun h q => ((hA h q).2 _ (List.mem_of_getElem? he)).2)
      have hat := (H.rd 3 rfl (fun h q => (hA h q).1)).at (opC_get he 0 _ rfl)
      have hver := hD.2.2
      refine s_do rfl rfl rfl (d_move rfl rfl) ?_
      refine s_do rfl rfl rfl (d_move rfl rfl) ?_
      refine s_do rfl rfl rfl (d_indexE rfl (z := 7) (j := i) (r := i * 7) (by kernel_rfl) rfl rfl rfl (by omega) hat (by omega)) ?_
      refine s_do rfl rfl rfl (d_fieldE rfl (k := 0) (r := i * 7) (by kernel_rfl) rfl hat rfl) ?_
      refine s_do rfl rfl rfl (d_loadE rfl rfl (by kernel_rfl) (here ((H.rd 3 rfl (fun h q => (hA h q).1)).at (opC_get he 0 _ rfl)))) ?_
      refine s_end ?_
      refine k_block ?_
      refine k_seq ?_
      refine k_seq ?_
      refine s_region ?_
      refine s_do rfl rfl rfl (d_eql rfl rfl rfl) ?_
      refine s_do rfl rfl rfl (d_assign rfl rfl) ?_
      refine s_end ?_
      refine k_dec rfl (fun h3 => ?_) (fun h3 => ?_)
      · -- yes: (om.k0 : Int) = 0
        refine k_skip ?_
        refine k_dec rfl (fun h4 => ?_) (fun h4 => ?_)
        · -- yes: (om.k0 : Int) = 0
          refine s_region ?_
          refine s_do rfl rfl rfl (d_move rfl rfl) ?_
          refine s_do rfl rfl rfl (d_move rfl rfl) ?_
          refine s_do rfl rfl rfl (d_move rfl rfl) ?_
          refine s_do rfl rfl rfl (d_indexE rfl (z := 7) (j := i) (r := i * 7) (by kernel_rfl) rfl rfl rfl (by omega) hat (by omega)) ?_
          refine s_do rfl rfl rfl (d_loadAggE rfl rfl (vs := [.int .i64 om.k0, pv, .int .i64 om.kd, .int .i64 om.fl, .int .i64 om.k4, .int .i64 om.k5, kv]) (by kernel_rfl) (by simp) (here (fun k u hk => (H.rd 3 rfl (fun h q => (hA h q).1)).at (opC_get he k u hk)))) ?_
          refine s_callC rfl rfl rfl rfl rfl (fun w => Tryz.call10 _ w) (images_c _ _ _ _ _ _ _ om.ns _ (fun h q => ((hA h q).2 _ (List.mem_of_getElem? he)).1) hopi.1 hopi.2) H 4 [3, 0, 1, 2] rfl rfl ?_
          rintro v1 w _ ⟨hqi1, him1, rfl⟩ H'
          have H : Sep z (poolA hqi1 :: A :: blk pl [.pointer (some ⟨pd, 0, none⟩), .pointer (some ⟨pt, 0, none⟩), .int .i64 ((sI hh).gen), .int .i64 ((sI hh).epoch), .int .i64 ((sI hh).pages), .int .i64 ((sI hh).start), .int .i64 ((sI hh).len), .int .i64 ((sI hh).head), .int .i64 ((sI hh).seq), .int .i64 a, .int .i64 q, .int .i64 u, .bool b, .bool (decide ((sI hh).epoch < 4294967296))] 77 :: diskA pd D :: tblA pt :: R) w := H'
          clear H'
          have sv1 : Slc v1 (opImgs om.ns om.kd om.fl).length := by obtain ⟨ao, c, e⟩ := him1.slc; exact ⟨ao, c, e⟩
          refine s_callC rfl rfl rfl rfl rfl (fun w => Tryz.call9 _ w) (appendI_c _ _ _ _ _ _ _ _ _ _ (opImgs om.ns om.kd om.fl) _ (fun h q => him1.le q) _ (by rw [hD.1]; exact hok) rfl (by omega) (by omega) (by omega) (fun j => by have := hver j; omega)) H 5 [2, 4, 3, 0, 1] rfl rfl ?_
          rintro _ w _ ⟨c, D2, a2, q2, u2, b2, ⟨hins, ha2, hq2, hu2⟩, rfl, rfl⟩ H'
          have H : Sep z (blk pl [.pointer (some ⟨pd, 0, none⟩), .pointer (some ⟨pt, 0, none⟩), .int .i64 ((sI hh).gen), .int .i64 ((sI hh).epoch), .int .i64 ((sI hh).pages), .int .i64 ((sI hh).start), .int .i64 ((sI hh).len), .int .i64 ((sI hh).head), .int .i64 ((sI hh).seq), .int .i64 a2, .int .i64 q2, .int .i64 u2, .bool b2, .bool (decide ((sI hh).epoch < 4294967296))] 77 :: tblA pt :: diskA pd D2 :: poolA hqi1 :: A :: R) w := H'
          clear H'
          refine s_end ?_
          refine s_region ?_
          refine s_do rfl rfl rfl (d_move rfl rfl) ?_
          refine s_do rfl rfl rfl (d_add64 rfl rfl rfl (r := (i : Int) + 1) (by omega) (by omega)) ?_
          refine s_do rfl rfl rfl (d_assign rfl rfl) ?_
          refine s_end ?_
          have H' := H.pick 5 [0, 2, 1, 4] rfl
          have H : Sep z (blk pl [.pointer (some ⟨pd, 0, none⟩), .pointer (some ⟨pt, 0, none⟩), .int .i64 ((sI hh).gen), .int .i64 ((sI hh).epoch), .int .i64 ((sI hh).pages), .int .i64 ((sI hh).start), .int .i64 ((sI hh).len), .int .i64 ((sI hh).head), .int .i64 ((sI hh).seq), .int .i64 a2, .int .i64 q2, .int .i64 u2, .bool b2, .bool (decide ((sI hh).epoch < 4294967296))] 77 :: diskA pd D2 :: tblA pt :: A :: R) w := H'
          clear H'
          intro _ hF
          refine ⟨⟨i + 1, D2, a2, q2, u2, b2⟩, (hF.cons (hF.cons (hF.cons (hF.cons (hF.cons hF.nil 9 _ _ rfl rfl) 6 _ _ rfl rfl) 4 _ _ rfl rfl) 1 _ _ rfl rfl) 10 _ _ rfl (by go_num)), ⟨H, ?_⟩, ?_⟩
          · exact ⟨by omega, hD.ins hins, by dsimp only; omega, by dsimp only; omega, by dsimp only; omega⟩
          · (dsimp only; omega)
        · exact absurd h3 h4
      · -- no: (om.k0 : Int) = 0
        refine s_region ?_
        refine s_do rfl rfl rfl (d_eql rfl rfl rfl) ?_
        refine s_do rfl rfl rfl (d_assign rfl rfl) ?_
        refine s_end ?_
        refine k_dec rfl (fun h5 => ?_) (fun h5 => ?_)
        · -- yes: (om.k0 : Int) = 6
          refine s_region ?_
          refine s_do rfl rfl rfl (d_move rfl rfl) ?_
          refine s_do rfl rfl rfl (d_move rfl rfl) ?_
          refine s_do rfl rfl rfl (d_move rfl rfl) ?_
          refine s_do rfl rfl rfl (d_indexE rfl (z := 7) (j := i) (r := i * 7) (by kernel_rfl) rfl rfl rfl (by omega) hat (by omega)) ?_
          refine s_do rfl rfl rfl (d_loadAggE rfl rfl (vs := [.int .i64 om.k0, pv, .int .i64 om.kd, .int .i64 om.fl, .int .i64 om.k4, .int .i64 om.k5, kv]) (by kernel_rfl) (by simp) (here (fun k u hk => (H.rd 3 rfl (fun h q => (hA h q).1)).at (opC_get he k u hk)))) ?_
          refine s_callC rfl rfl rfl rfl rfl (fun w => Tryz.call10 _ w) (images_c _ _ _ _ _ _ _ om.ns _ (fun h q => ((hA h q).2 _ (List.mem_of_getElem? he)).1) hopi.1 hopi.2) H 4 [3, 0, 1, 2] rfl rfl ?_
          rintro v1 w _ ⟨hqi1, him1, rfl⟩ H'
          have H : Sep z (poolA hqi1 :: A :: blk pl [.pointer (some ⟨pd, 0, none⟩), .pointer (some ⟨pt, 0, none⟩), .int .i64 ((sI hh).gen), .int .i64 ((sI hh).epoch), .int .i64 ((sI hh).pages), .int .i64 ((sI hh).start), .int .i64 ((sI hh).len), .int .i64 ((sI hh).head), .int .i64 ((sI hh).seq), .int .i64 a, .int .i64 q, .int .i64 u, .bool b, .bool (decide ((sI hh).epoch < 4294967296))] 77 :: diskA pd D :: tblA pt :: R) w := H'
          clear H'
          have sv1 : Slc v1 (opImgs om.ns om.kd om.fl).length := by obtain ⟨ao, c, e⟩ := him1.slc; exact ⟨ao, c, e⟩
          refine s_callC rfl rfl rfl rfl rfl (fun w => Tryz.call9 _ w) (appendI_c _ _ _ _ _ _ _ _ _ _ (opImgs om.ns om.kd om.fl) _ (fun h q => him1.le q) _ (by rw [hD.1]; exact hok) rfl (by omega) (by omega) (by omega) (fun j => by have := hver j; omega)) H 5 [2, 4, 3, 0, 1] rfl rfl ?_
          rintro _ w _ ⟨c, D2, a2, q2, u2, b2, ⟨hins, ha2, hq2, hu2⟩, rfl, rfl⟩ H'
          have H : Sep z (blk pl [.pointer (some ⟨pd, 0, none⟩), .pointer (some ⟨pt, 0, none⟩), .int .i64 ((sI hh).gen), .int .i64 ((sI hh).epoch), .int .i64 ((sI hh).pages), .int .i64 ((sI hh).start), .int .i64 ((sI hh).len), .int .i64 ((sI hh).head), .int .i64 ((sI hh).seq), .int .i64 a2, .int .i64 q2, .int .i64 u2, .bool b2, .bool (decide ((sI hh).epoch < 4294967296))] 77 :: tblA pt :: diskA pd D2 :: poolA hqi1 :: A :: R) w := H'
          clear H'
          refine s_end ?_
          refine s_region ?_
          refine s_do rfl rfl rfl (d_move rfl rfl) ?_
          refine s_do rfl rfl rfl (d_add64 rfl rfl rfl (r := (i : Int) + 1) (by omega) (by omega)) ?_
          refine s_do rfl rfl rfl (d_assign rfl rfl) ?_
          refine s_end ?_
          have H' := H.pick 5 [0, 2, 1, 4] rfl
          have H : Sep z (blk pl [.pointer (some ⟨pd, 0, none⟩), .pointer (some ⟨pt, 0, none⟩), .int .i64 ((sI hh).gen), .int .i64 ((sI hh).epoch), .int .i64 ((sI hh).pages), .int .i64 ((sI hh).start), .int .i64 ((sI hh).len), .int .i64 ((sI hh).head), .int .i64 ((sI hh).seq), .int .i64 a2, .int .i64 q2, .int .i64 u2, .bool b2, .bool (decide ((sI hh).epoch < 4294967296))] 77 :: diskA pd D2 :: tblA pt :: A :: R) w := H'
          clear H'
          intro _ hF
          refine ⟨⟨i + 1, D2, a2, q2, u2, b2⟩, (hF.cons (hF.cons (hF.cons (hF.cons (hF.cons hF.nil 9 _ _ rfl rfl) 6 _ _ rfl rfl) 4 _ _ rfl rfl) 1 _ _ rfl rfl) 10 _ _ rfl (by go_num)), ⟨H, ?_⟩, ?_⟩
          · exact ⟨by omega, hD.ins hins, by dsimp only; omega, by dsimp only; omega, by dsimp only; omega⟩
          · (dsimp only; omega)
        · -- no: (om.k0 : Int) = 6
          refine k_seq ?_
          refine s_region ?_
          refine s_do rfl rfl rfl (d_eql rfl rfl rfl) ?_
          refine s_do rfl rfl rfl (d_assign rfl rfl) ?_
          refine s_end ?_
          refine k_dec rfl (fun h6 => ?_) (fun h6 => ?_)
          · -- yes: (om.k0 : Int) = 1
            refine s_region ?_
            refine s_do rfl rfl rfl (d_move rfl rfl) ?_
            refine s_callC rfl rfl rfl rfl rfl (fun w => Tryz.call11 _ w) (drop_c _ _ _ _ _ _ _ _ _) H 1 [0] rfl rfl ?_
            rintro _ w _ ⟨rfl, rfl⟩ H'
            have H : Sep z (blk pl [.pointer (some ⟨pd, 0, none⟩), .pointer (some ⟨pt, 0, none⟩), .int .i64 ((sI hh).gen), .int .i64 ((sI hh).epoch), .int .i64 ((sI hh).pages), .int .i64 ((sI hh).start), .int .i64 ((sI hh).len), .int .i64 ((sI hh).head), .int .i64 ((sI hh).seq), .int .i64 a, .int .i64 q, .int .i64 0, .bool false, .bool (decide ((sI hh).epoch < 4294967296))] 77 :: diskA pd D :: tblA pt :: A :: R) w := H'
            clear H'
            refine s_end ?_
            refine s_region ?_
            refine s_do rfl rfl rfl (d_move rfl rfl) ?_
            refine s_do rfl rfl rfl (d_add64 rfl rfl rfl (r := (i : Int) + 1) (by omega) (by omega)) ?_
            refine s_do rfl rfl rfl (d_assign rfl rfl) ?_
            refine s_end ?_
            intro _ hF
            refine ⟨⟨i + 1, D, a, q, 0, false⟩, (hF.cons (hF.cons (hF.cons (hF.cons (hF.cons hF.nil 9 _ _ rfl rfl) 6 _ _ rfl rfl) 4 _ _ rfl rfl) 1 _ _ rfl rfl) 10 _ _ rfl (by go_num)), ⟨H, ?_⟩, ?_⟩
            · exact ⟨by omega, hD.le (by omega), by dsimp only; omega, by dsimp only; omega, by dsimp only; omega⟩
            · (dsimp only; omega)
          · -- no: (om.k0 : Int) = 1
            refine k_seq ?_
            refine s_region ?_
            refine s_do rfl rfl rfl (d_eql rfl rfl rfl) ?_
            refine s_do rfl rfl rfl (d_assign rfl rfl) ?_
            refine s_end ?_
            refine k_dec rfl (fun h7 => ?_) (fun h7 => ?_)
            · -- yes: (om.k0 : Int) = 3
              refine s_region ?_
              refine s_do rfl rfl rfl (d_move rfl rfl) ?_
              refine s_do rfl rfl rfl (d_move rfl rfl) ?_
              refine s_do rfl rfl rfl (d_move rfl rfl) ?_
              refine s_do rfl rfl rfl (d_indexE rfl (z := 7) (j := i) (r := i * 7) (by kernel_rfl) rfl rfl rfl (by omega) hat (by omega)) ?_
              refine s_do rfl rfl rfl (d_fieldE rfl (k := 5) (r := i * 7 + 5) (by kernel_rfl) rfl hat rfl) ?_
              refine s_do rfl rfl rfl (d_loadE rfl rfl (by kernel_rfl) (here ((H.rd 3 rfl (fun h q => (hA h q).1)).at (opC_get he 5 _ rfl)))) ?_
              refine s_callC rfl rfl rfl rfl rfl (fun w => Tryz.call12 _ w) (fail2_c _ _ _) H 2 [1, 0] rfl rfl ?_
              rintro _ w _ (⟨hx, rfl, rfl⟩ | ⟨hx, rfl, rfl⟩) H'
              · -- a case
                have H : Sep z (diskA pd D :: blk pl [.pointer (some ⟨pd, 0, none⟩), .pointer (some ⟨pt, 0, none⟩), .int .i64 ((sI hh).gen), .int .i64 ((sI hh).epoch), .int .i64 ((sI hh).pages), .int .i64 ((sI hh).start), .int .i64 ((sI hh).len), .int .i64 ((sI hh).head), .int .i64 ((sI hh).seq), .int .i64 a, .int .i64 q, .int .i64 u, .bool b, .bool (decide ((sI hh).epoch < 4294967296))] 77 :: tblA pt :: A :: R) w := H'
                clear H'
                refine s_end ?_
                refine s_region ?_
                refine s_do rfl rfl rfl (d_move rfl rfl) ?_
                refine s_do rfl rfl rfl (d_add64 rfl rfl rfl (r := (i : Int) + 1) (by omega) (by omega)) ?_
                refine s_do rfl rfl rfl (d_assign rfl rfl) ?_
                refine s_end ?_
                have H' := H.pick 4 [1, 0, 2, 3] rfl
                have H : Sep z (blk pl [.pointer (some ⟨pd, 0, none⟩), .pointer (some ⟨pt, 0, none⟩), .int .i64 ((sI hh).gen), .int .i64 ((sI hh).epoch), .int .i64 ((sI hh).pages), .int .i64 ((sI hh).start), .int .i64 ((sI hh).len), .int .i64 ((sI hh).head), .int .i64 ((sI hh).seq), .int .i64 a, .int .i64 q, .int .i64 u, .bool b, .bool (decide ((sI hh).epoch < 4294967296))] 77 :: diskA pd D :: tblA pt :: A :: R) w := H'
                clear H'
                intro _ hF
                refine ⟨⟨i + 1, D, a, q, u, b⟩, (hF.cons (hF.cons (hF.cons (hF.cons (hF.cons hF.nil 9 _ _ rfl rfl) 6 _ _ rfl rfl) 4 _ _ rfl rfl) 1 _ _ rfl rfl) 10 _ _ rfl (by go_num)), ⟨H, ?_⟩, ?_⟩
                · exact ⟨by omega, hD.le (by omega), by dsimp only; omega, by dsimp only; omega, by dsimp only; omega⟩
                · (dsimp only; omega)
              · -- a case
                have H : Sep z (diskA pd ({ D with f2 := om.k5 }) :: blk pl [.pointer (some ⟨pd, 0, none⟩), .pointer (some ⟨pt, 0, none⟩), .int .i64 ((sI hh).gen), .int .i64 ((sI hh).epoch), .int .i64 ((sI hh).pages), .int .i64 ((sI hh).start), .int .i64 ((sI hh).len), .int .i64 ((sI hh).head), .int .i64 ((sI hh).seq), .int .i64 a, .int .i64 q, .int .i64 u, .bool b, .bool (decide ((sI hh).epoch < 4294967296))] 77 :: tblA pt :: A :: R) w := H'
                clear H'
                refine s_end ?_
                refine s_region ?_
                refine s_do rfl rfl rfl (d_move rfl rfl) ?_
                refine s_do rfl rfl rfl (d_add64 rfl rfl rfl (r := (i : Int) + 1) (by omega) (by omega)) ?_
                refine s_do rfl rfl rfl (d_assign rfl rfl) ?_
                refine s_end ?_
                have H' := H.pick 4 [1, 0, 2, 3] rfl
                have H : Sep z (blk pl [.pointer (some ⟨pd, 0, none⟩), .pointer (some ⟨pt, 0, none⟩), .int .i64 ((sI hh).gen), .int .i64 ((sI hh).epoch), .int .i64 ((sI hh).pages), .int .i64 ((sI hh).start), .int .i64 ((sI hh).len), .int .i64 ((sI hh).head), .int .i64 ((sI hh).seq), .int .i64 a, .int .i64 q, .int .i64 u, .bool b, .bool (decide ((sI hh).epoch < 4294967296))] 77 :: diskA pd ({ D with f2 := om.k5 }) :: tblA pt :: A :: R) w := H'
                clear H'
                intro _ hF
                refine ⟨⟨i + 1, ({ D with f2 := om.k5 }), a, q, u, b⟩, (hF.cons (hF.cons (hF.cons (hF.cons (hF.cons hF.nil 9 _ _ rfl rfl) 6 _ _ rfl rfl) 4 _ _ rfl rfl) 1 _ _ rfl rfl) 10 _ _ rfl (by go_num)), ⟨H, ?_⟩, ?_⟩
                · exact ⟨by omega, (hD.f _).le (by omega), by dsimp only; omega, by dsimp only; omega, by dsimp only; omega⟩
                · (dsimp only; omega)
            · -- no: (om.k0 : Int) = 3
              refine k_skip ?_
              refine s_region ?_
              refine s_do rfl rfl rfl (d_move rfl rfl) ?_
              refine s_do rfl rfl rfl (d_add64 rfl rfl rfl (r := (i : Int) + 1) (by omega) (by omega)) ?_
              refine s_do rfl rfl rfl (d_assign rfl rfl) ?_
              refine s_end ?_
              intro _ hF
              refine ⟨⟨i + 1, D, a, q, u, b⟩, (hF.cons (hF.cons (hF.cons (hF.cons (hF.cons hF.nil 9 _ _ rfl rfl) 6 _ _ rfl rfl) 4 _ _ rfl rfl) 1 _ _ rfl rfl) 10 _ _ rfl (by go_num)), ⟨H, ?_⟩, ?_⟩
              · exact ⟨by omega, hD.le (by omega), by dsimp only; omega, by dsimp only; omega, by dsimp only; omega⟩
              · (dsimp only; omega)
    · -- no: (i : Int) < (es.length : Int)
      refine k_exit ?_
      refine k_here ?_
      refine k_seq ?_
      refine s_region ?_
      refine s_do rfl rfl rfl (d_move rfl rfl) ?_
      refine s_callC rfl rfl rfl rfl rfl (fun w => Tryz.call13 _ w) (dirty_c _ _) H 2 [1, 0] rfl rfl ?_
      rintro v3 w _ ⟨ks, hks, rfl⟩ H'
      have H : Sep z (grow 3 1 v3 ks.length (ks.map (Value.int .i64)) :: diskA pd D :: blk pl [.pointer (some ⟨pd, 0, none⟩), .pointer (some ⟨pt, 0, none⟩), .int .i64 ((sI hh).gen), .int .i64 ((sI hh).epoch), .int .i64 ((sI hh).pages), .int .i64 ((sI hh).start), .int .i64 ((sI hh).len), .int .i64 ((sI hh).head), .int .i64 ((sI hh).seq), .int .i64 a, .int .i64 q, .int .i64 u, .bool b, .bool (decide ((sI hh).epoch < 4294967296))] 77 :: tblA pt :: A :: R) w := H'
      clear H'
      have sv3 := H.says 0 rfl (fun h q => q.slc)
      refine s_do rfl rfl rfl (d_assign rfl rfl) ?_
      refine s_end ?_
      refine k_seq ?_
      refine k_seq ?_
      have hksm := H.says 0 rfl (fun h q => q.rd.small)
      obtain ⟨ao3, c3, rfl⟩ := sv3
      have H : Sep z (grow 3 1 (.slice ao3 ks.length c3) ks.length (ks.map (Value.int .i64)) :: diskA pd D :: blk pl [.pointer (some ⟨pd, 0, none⟩), .pointer (some ⟨pt, 0, none⟩), .int .i64 ((sI hh).gen), .int .i64 ((sI hh).epoch), .int .i64 ((sI hh).pages), .int .i64 ((sI hh).start), .int .i64 ((sI hh).len), .int .i64 ((sI hh).head), .int .i64 ((sI hh).seq), .int .i64 a, .int .i64 q, .int .i64 u, .bool b, .bool (decide ((sI hh).epoch < 4294967296))] 77 :: tblA pt :: A :: R) w := H
      refine s_region ?_
      refine s_do rfl rfl rfl (d_assign rfl rfl) ?_
      refine s_end ?_
      refine k_block ?_
      refine c_loop (σ := Nat) (fun j => [(12, .int .i64 (j : Int)), (9, .pointer (some ⟨pl, 0, none⟩)), (11, .slice ao3 ks.length c3)])
        (fun j w => Sep z (grow 3 1 (.slice ao3 ks.length c3) ks.length (ks.map (Value.int .i64)) :: diskA pd D :: blk pl [.pointer (some ⟨pd, 0, none⟩), .pointer (some ⟨pt, 0, none⟩), .int .i64 ((sI hh).gen), .int .i64 ((sI hh).epoch), .int .i64 ((sI hh).pages), .int .i64 ((sI hh).start), .int .i64 ((sI hh).len), .int .i64 ((sI hh).head), .int .i64 ((sI hh).seq), .int .i64 a, .int .i64 q, .int .i64 u, .bool b, .bool (decide ((sI hh).epoch < 4294967296))] 77 :: tblA pt :: A :: R) w ∧ (j ≤ ks.length)) (fun j => ks.length - j) 0
        (fun _ hF => (hF.cons (hF.cons (hF.cons hF.nil 11 _ _ rfl rfl) 9 _ _ rfl rfl) 12 _ _ rfl (by go_num))) ⟨H, by omega⟩ ?_
      clear H; rintro j w ⟨H', hI⟩
      have H : Sep z (grow 3 1 (.slice ao3 ks.length c3) ks.length (ks.map (Value.int .i64)) :: diskA pd D :: blk pl [.pointer (some ⟨pd, 0, none⟩), .pointer (some ⟨pt, 0, none⟩), .int .i64 ((sI hh).gen), .int .i64 ((sI hh).epoch), .int .i64 ((sI hh).pages), .int .i64 ((sI hh).start), .int .i64 ((sI hh).len), .int .i64 ((sI hh).head), .int .i64 ((sI hh).seq), .int .i64 a, .int .i64 q, .int .i64 u, .bool b, .bool (decide ((sI hh).epoch < 4294967296))] 77 :: tblA pt :: A :: R) w := H'
      clear H'
      have hjn := hI
      refine k_seq ?_
      refine k_seq ?_
      refine s_region ?_
      refine s_do rfl rfl rfl (d_move rfl rfl) ?_
      refine s_do rfl rfl rfl (d_move rfl rfl) ?_
      refine s_do rfl rfl rfl (d_len rfl (z := 1) (by kernel_rfl) rfl) ?_
      refine s_do rfl rfl rfl (d_lss rfl rfl rfl) ?_
      refine s_end ?_
      refine k_dec rfl (fun h8 => ?_) (fun h8 => ?_)
      · -- yes: (j : Int) < (ks.length : Int)
        refine k_skip ?_
        refine k_seq ?_
        refine k_block ?_
        refine k_seq ?_
        refine s_region ?_
        obtain ⟨x, hx⟩ : ∃ x, ks[j]? = some x := ⟨_, List.getElem?_eq_getElem (by omega)⟩
        have hat3 := (H.rd 0 rfl (fun h q => q.rd)).at (j := j) (u := .int .i64 x) (by simp [hx])
        have hxk := hD.key ((hks.2 x).1 (List.mem_of_getElem? hx))
        refine s_do rfl rfl rfl (d_move rfl rfl) ?_
        refine s_do rfl rfl rfl (d_move rfl rfl) ?_
        refine s_do rfl rfl rfl (d_indexE rfl (z := 1) (j := j) (r := j) (by kernel_rfl) rfl rfl rfl (by omega) hat3 (by omega)) ?_
        refine s_do rfl rfl rfl (d_loadE rfl rfl (by kernel_rfl) (here hat3)) ?_
        refine s_do rfl rfl rfl (d_lss rfl rfl rfl) ?_
        refine s_do rfl rfl rfl (d_move rfl rfl) ?_
        refine s_part 89 rfl (fun h9 => ?_) (fun h9 => ?_)
        · (exfalso; omega)
        · -- no: (x : Int) < 20
          refine s_do rfl rfl rfl (d_move rfl rfl) ?_
          refine s_do rfl rfl rfl (d_move rfl rfl) ?_
          refine s_do rfl rfl rfl (d_indexE rfl (z := 1) (j := j) (r := j) (by kernel_rfl) rfl rfl rfl (by omega) hat3 (by omega)) ?_
          refine s_do rfl rfl rfl (d_loadE rfl rfl (by kernel_rfl) (here hat3)) ?_
          refine s_do rfl rfl rfl (d_geq rfl rfl rfl) ?_
          refine s_do rfl rfl rfl (d_pick_f rfl rfl rfl) ?_
          refine s_end ?_
          refine k_dec rfl (fun h10 => ?_) (fun h10 => ?_)
          · (exfalso; omega)
          · -- no: (84 : Int) ≤ x
            refine k_skip ?_
            refine s_region ?_
            refine s_do rfl rfl rfl (d_move rfl rfl) ?_
            refine s_do rfl rfl rfl (d_add64 rfl rfl rfl (r := (j : Int) + 1) (by omega) (by omega)) ?_
            refine s_do rfl rfl rfl (d_assign rfl rfl) ?_
            refine s_end ?_
            intro _ hF
            refine ⟨(j + 1), (hF.cons (hF.cons (hF.cons hF.nil 11 _ _ rfl rfl) 9 _ _ rfl rfl) 12 _ _ rfl (by go_num)), ⟨H, ?_⟩, ?_⟩
            · omega
            · omega
      · -- no: (j : Int) < (ks.length : Int)
        refine k_exit ?_
        refine k_here ?_
        refine k_seq ?_
        have hroom : 0 ≤ (if b then 0 else (sI hh).len - u) ∧ (if b then 0 else (sI hh).len - u) ≤ 64 := by split <;> omega
        refine s_region ?_
        refine s_do rfl rfl rfl (d_move rfl rfl) ?_
        refine s_callC rfl rfl rfl rfl rfl (fun w => Tryz.call14 _ w) (room_c _ _ _ _ _ _ _ _ _ (by omega)) H 3 [2, 0, 1] rfl rfl ?_
        rintro _ w _ ⟨rfl, rfl⟩ H'
        have H : Sep z (blk pl [.pointer (some ⟨pd, 0, none⟩), .pointer (some ⟨pt, 0, none⟩), .int .i64 ((sI hh).gen), .int .i64 ((sI hh).epoch), .int .i64 ((sI hh).pages), .int .i64 ((sI hh).start), .int .i64 ((sI hh).len), .int .i64 ((sI hh).head), .int .i64 ((sI hh).seq), .int .i64 a, .int .i64 q, .int .i64 u, .bool b, .bool (decide ((sI hh).epoch < 4294967296))] 77 :: grow 3 1 (.slice ao3 ks.length c3) ks.length (ks.map (Value.int .i64)) :: diskA pd D :: tblA pt :: A :: R) w := H'
        clear H'
        refine s_do rfl rfl rfl (d_geq rfl rfl rfl) ?_
        refine s_do rfl rfl rfl (d_move rfl rfl) ?_
        refine s_part 99 rfl (fun h11 => ?_) (fun h11 => ?_)
        · -- yes: (0 : Int) ≤ (if b then 0 else (sI hh).len - u)
          refine s_do rfl rfl rfl (d_move rfl rfl) ?_
          refine s_callC rfl rfl rfl rfl rfl (fun w => Tryz.call14 _ w) (room_c _ _ _ _ _ _ _ _ _ (by omega)) H 1 [0] rfl rfl ?_
          rintro _ w _ ⟨rfl, rfl⟩ H'
          have H : Sep z (blk pl [.pointer (some ⟨pd, 0, none⟩), .pointer (some ⟨pt, 0, none⟩), .int .i64 ((sI hh).gen), .int .i64 ((sI hh).epoch), .int .i64 ((sI hh).pages), .int .i64 ((sI hh).start), .int .i64 ((sI hh).len), .int .i64 ((sI hh).head), .int .i64 ((sI hh).seq), .int .i64 a, .int .i64 q, .int .i64 u, .bool b, .bool (decide ((sI hh).epoch < 4294967296))] 77 :: grow 3 1 (.slice ao3 ks.length c3) ks.length (ks.map (Value.int .i64)) :: diskA pd D :: tblA pt :: A :: R) w := H'
          clear H'
          refine s_do rfl rfl rfl (d_leq rfl rfl rfl) ?_
          refine s_do rfl rfl rfl (d_pick_t rfl rfl rfl) ?_
          refine s_do rfl rfl rfl (d_assign rfl rfl) ?_
          refine s_end ?_
          refine k_ret ?_
          refine doneL rfl [.bool (decide ((if b then 0 else (sI hh).len - u : Int) ≤ 64))] ⟨rfl, trivial⟩ (v := .bool (decide ((if b then 0 else (sI hh).len - u : Int) ≤ 64))) rfl ?_
          exact ⟨[A], ⟨congrArg Value.bool (decide_eq_true hroom.2), rfl⟩, H.perm 5 [4] rfl rfl⟩
        · exact absurd hroom.1 h11
end Go.Proofs.YtanejicgmgpjcaaGreatDoor
