/-
  Walks: trimming, sound sectors. No condition.
-/
import Derived.Test.YtanejicgmgpjcaaGreatDoorLogH
set_option maxRecDepth 100000
namespace Go.Proofs.YtanejicgmgpjcaaGreatDoor
open Go.RowKit
theorem trimR_c (b o n c : Nat) (xs : List UInt8) (A : Asn) (hA : ∀ h, A h → rdH 1 (.slice (some ⟨b, o, none⟩) n c) n (xs.map u8) h) (hn : n < c) : Cn Tryz.prog 83 [.slice (some ⟨b, o, none⟩) n c, u8 0] [A] (fun v Γ => v = .slice (some ⟨b, o, none⟩) (rz xs) c ∧ Γ = [A]) := by
  intro z R w H'
  have H : Sep z (A :: R) w := H'
  clear H'
  have hxl := H.says 0 rfl (fun h q => (hA h q).len)
  have hcb := H.says 0 rfl (fun h q => (hA h q).cap)
  refine enter Tryz.func83 rfl 24 Tryz.ntmps83 rfl ?_
  refine k_seq ?_
  refine s_region ?_
  refine s_do rfl rfl rfl (d_assign rfl rfl) ?_
  refine s_end ?_
  refine k_seq ?_
  refine k_block ?_
  refine c_loop (σ := Nat) (fun m => [(0, .slice (some ⟨b, o, none⟩) m c), (1, u8 0), (4, .slice none 0 0)])
    (fun m w => Sep z (A :: R) w ∧ (m ≤ n ∧ ∀ (j : Nat) (y : UInt8), m ≤ j → xs[j]? = some y → y = 0)) (fun m => m) n
    (fun _ hF => (hF.cons (hF.cons (hF.cons hF.nil 4 _ _ rfl rfl) 1 _ _ rfl rfl) 0 _ _ rfl rfl)) ⟨H, Nat.le_refl _, fun j y hj h => by have := (List.getElem?_eq_some_iff.1 h).1; omega⟩ ?_
  clear H; rintro m w ⟨H', hI⟩
  have H : Sep z (A :: R) w := H'
  clear H'
  obtain ⟨hm, hz⟩ := hI
  refine k_seq ?_
  refine k_seq ?_
  refine s_region ?_
  refine s_do rfl rfl rfl (d_move rfl rfl) ?_
  refine s_do rfl rfl rfl (d_len rfl (z := 1) (by kernel_rfl) rfl) ?_
  refine s_do rfl rfl rfl (d_gtr rfl rfl rfl) ?_
  refine s_do rfl rfl rfl (d_move rfl rfl) ?_
  refine s_part 8 rfl (fun h1 => ?_) (fun h1 => ?_)
  · -- yes: (0 : Int) < (m : Int)
    obtain ⟨x, hx⟩ : ∃ x, xs[m - 1]? = some x := ⟨_, List.getElem?_eq_getElem (by omega)⟩
    refine s_do rfl rfl rfl (d_move rfl rfl) ?_
    refine s_do rfl rfl rfl (d_move rfl rfl) ?_
    refine s_do rfl rfl rfl (d_len rfl (z := 1) (by kernel_rfl) rfl) ?_
    refine s_do rfl rfl rfl (d_sub64 rfl rfl rfl (r := ((m - 1 : Nat) : Int)) (by omega) (by omega)) ?_
    refine s_do rfl rfl rfl (d_index rfl (z := 1) (j := (m - 1)) (r := o + (m - 1)) (by kernel_rfl) rfl rfl rfl (by omega) (by omega)) ?_
    refine s_do rfl rfl rfl (d_load rfl rfl (by kernel_rfl) (here (H.cell 0 rfl (fun h q => (hA h q).at hx)))) ?_
    refine s_do rfl rfl rfl (d_move rfl rfl) ?_
    refine s_do rfl rfl rfl (d_eql8 (q := 0) (k := .u8) rfl (by kernel_rfl) rfl rfl) ?_
    refine s_do rfl rfl rfl (d_pick_t rfl rfl rfl) ?_
    refine s_end ?_
    refine k_dec rfl (fun h2 => ?_) (fun h2 => ?_)
    · -- yes: x = 0
      refine k_skip ?_
      refine k_block ?_
      refine s_region ?_
      refine s_do rfl rfl rfl (d_move rfl rfl) ?_
      refine s_do rfl rfl rfl (d_move rfl rfl) ?_
      refine s_do rfl rfl rfl (d_len rfl (z := 1) (by kernel_rfl) rfl) ?_
      refine s_do rfl rfl rfl (d_sub64 rfl rfl rfl (r := ((m - 1 : Nat) : Int)) (by omega) (by omega)) ?_
      refine s_do rfl rfl rfl (d_sliceC rfl (z := 1) (p := 0) (q := (m - 1)) (o' := o) (l' := (m - 1)) (c' := c) (by kernel_rfl) rfl (.inl ⟨rfl, rfl⟩) (.inr ⟨_, _, _, rfl, rfl, rfl⟩) (by omega) (by omega) (by omega) (by omega) (by omega) (by omega)) ?_
      refine s_do rfl rfl rfl (d_assign rfl rfl) ?_
      refine s_end ?_
      intro _ hF
      refine ⟨(m - 1), (hF.cons (hF.cons (hF.cons hF.nil 4 _ _ rfl rfl) 1 _ _ rfl rfl) 0 _ _ rfl rfl), ⟨H, ?_⟩, ?_⟩
      · refine ⟨by omega, fun j y hj h => ?_⟩
        rcases Nat.lt_or_ge j m with q | q
        · obtain rfl : j = m - 1 := by omega
          rw [hx] at h; cases h; exact h2
        · exact hz j y q h
      · omega
    · -- no: x = 0
      refine k_exit ?_
      refine k_here ?_
      refine k_seq ?_
      refine s_region ?_
      refine s_do rfl rfl rfl (d_move rfl rfl) ?_
      refine s_do rfl rfl rfl (d_assign rfl rfl) ?_
      refine s_end ?_
      refine k_ret ?_
      refine doneL rfl [.slice (some ⟨b, o, none⟩) m c] ⟨rfl, trivial⟩ (v := .slice (some ⟨b, o, none⟩) m c) rfl ?_
      obtain rfl : m = rz xs := rz_is (by omega) hz (by first | exact .inl (by omega) | exact .inr ⟨x, hx, h2⟩)
      exact ⟨[A], ⟨rfl, rfl⟩, H⟩
  · -- no: (0 : Int) < (m : Int)
    refine s_skip rfl rfl rfl ?_
    refine s_skip rfl rfl rfl ?_
    refine s_skip rfl rfl rfl ?_
    refine s_skip rfl rfl rfl ?_
    refine s_skip rfl rfl rfl ?_
    refine s_skip rfl rfl rfl ?_
    refine s_skip rfl rfl rfl ?_
    refine s_skip rfl rfl rfl ?_
    refine s_do rfl rfl rfl (d_pick_f rfl rfl rfl) ?_
    refine s_end ?_
    refine k_false rfl ?_
    refine k_exit ?_
    refine k_here ?_
    refine k_seq ?_
    refine s_region ?_
    refine s_do rfl rfl rfl (d_move rfl rfl) ?_
    refine s_do rfl rfl rfl (d_assign rfl rfl) ?_
    refine s_end ?_
    refine k_ret ?_
    refine doneL rfl [.slice (some ⟨b, o, none⟩) m c] ⟨rfl, trivial⟩ (v := .slice (some ⟨b, o, none⟩) m c) rfl ?_
    obtain rfl : m = rz xs := rz_is (by omega) hz (by first | exact .inl (by omega) | exact .inr ⟨x, hx, h2⟩)
    exact ⟨[A], ⟨rfl, rfl⟩, H⟩

theorem trimL_c (b o n c : Nat) (xs : List UInt8) (A : Asn) (hA : ∀ h, A h → rdH 1 (.slice (some ⟨b, o, none⟩) n c) n (xs.map u8) h) (hn : n < c) : Cn Tryz.prog 82 [.slice (some ⟨b, o, none⟩) n c, u8 0] [A] (fun v Γ => v = (if lz xs = n then .slice none 0 0 else .slice (some ⟨b, o + lz xs, none⟩) (n - lz xs) (c - lz xs)) ∧ Γ = [A]) := by
  intro z R w H'
  have H : Sep z (A :: R) w := H'
  clear H'
  have hxl := H.says 0 rfl (fun h q => (hA h q).len)
  have hcb := H.says 0 rfl (fun h q => (hA h q).cap)
  refine enter Tryz.func82 rfl 21 Tryz.ntmps82 rfl ?_
  refine k_seq ?_
  refine s_region ?_
  refine s_do rfl rfl rfl (d_assign rfl rfl) ?_
  refine s_end ?_
  refine k_seq ?_
  refine k_block ?_
  refine c_loop (σ := Nat) (fun p => [(0, .slice (some ⟨b, (o + p), none⟩) (n - p) (c - p)), (1, u8 0), (4, .slice none 0 0)])
    (fun p w => Sep z (A :: R) w ∧ (p ≤ n ∧ ∀ (j : Nat) (y : UInt8), j < p → xs[j]? = some y → y = 0)) (fun p => n - p) 0
    (fun _ hF => (hF.cons (hF.cons (hF.cons hF.nil 4 _ _ rfl rfl) 1 _ _ rfl rfl) 0 _ _ rfl (by go_num))) ⟨H, by omega, fun j y hj h => by omega⟩ ?_
  clear H; rintro p w ⟨H', hI⟩
  have H : Sep z (A :: R) w := H'
  clear H'
  obtain ⟨hp, hz⟩ := hI
  refine k_seq ?_
  refine k_seq ?_
  refine s_region ?_
  refine s_do rfl rfl rfl (d_move rfl rfl) ?_
  refine s_do rfl rfl rfl (d_len rfl (z := 1) (by kernel_rfl) rfl) ?_
  refine s_do rfl rfl rfl (d_gtr rfl rfl rfl) ?_
  refine s_do rfl rfl rfl (d_move rfl rfl) ?_
  refine s_part 8 rfl (fun h1 => ?_) (fun h1 => ?_)
  · -- yes: (0 : Int) < ((n - p : Nat) : Int)
    obtain ⟨x, hx⟩ : ∃ x, xs[p]? = some x := ⟨_, List.getElem?_eq_getElem (by omega)⟩
    refine s_do rfl rfl rfl (d_move rfl rfl) ?_
    refine s_do rfl rfl rfl (d_index rfl (z := 1) (j := 0) (r := o + p) (by kernel_rfl) rfl rfl rfl (by omega) (by omega)) ?_
    refine s_do rfl rfl rfl (d_load rfl rfl (by kernel_rfl) (here (H.cell 0 rfl (fun h q => (hA h q).at hx)))) ?_
    refine s_do rfl rfl rfl (d_move rfl rfl) ?_
    refine s_do rfl rfl rfl (d_eql8 (q := 0) (k := .u8) rfl (by kernel_rfl) rfl rfl) ?_
    refine s_do rfl rfl rfl (d_pick_t rfl rfl rfl) ?_
    refine s_end ?_
    refine k_dec rfl (fun h2 => ?_) (fun h2 => ?_)
    · -- yes: x = 0
      refine k_skip ?_
      refine k_block ?_
      refine s_region ?_
      refine s_do rfl rfl rfl (d_move rfl rfl) ?_
      refine s_do rfl rfl rfl (d_sliceC rfl (z := 1) (p := 1) (q := (n - p)) (o' := o + (p + 1)) (l' := (n - (p + 1))) (c' := (c - (p + 1))) (by kernel_rfl) rfl (.inr ⟨_, _, _, rfl, rfl, rfl⟩) (.inl ⟨rfl, rfl⟩) (by omega) (by omega) (by omega) (by omega) (by omega) (by omega)) ?_
      refine s_do rfl rfl rfl (d_assign rfl rfl) ?_
      refine s_end ?_
      intro _ hF
      refine ⟨(p + 1), (hF.cons (hF.cons (hF.cons hF.nil 4 _ _ rfl rfl) 1 _ _ rfl rfl) 0 _ _ rfl rfl), ⟨H, ?_⟩, ?_⟩
      · refine ⟨by omega, fun j y hj h => ?_⟩
        rcases Nat.lt_or_ge j p with q | q
        · exact hz j y q h
        · obtain rfl : j = p := by omega
          rw [hx] at h; cases h; exact h2
      · omega
    · -- no: x = 0
      refine k_exit ?_
      refine k_here ?_
      refine k_seq ?_
      refine k_seq ?_
      refine s_region ?_
      refine s_do rfl rfl rfl (d_move rfl rfl) ?_
      refine s_do rfl rfl rfl (d_len rfl (z := 1) (by kernel_rfl) rfl) ?_
      refine s_do rfl rfl rfl (d_eql rfl rfl rfl) ?_
      refine s_end ?_
      refine k_dec rfl (fun h3 => ?_) (fun h3 => ?_)
      · -- yes: ((n - p : Nat) : Int) = 0
        refine k_seq ?_
        refine s_region ?_
        refine s_do rfl rfl rfl (d_assign rfl rfl) ?_
        refine s_end ?_
        refine k_ret ?_
        refine doneL rfl [.slice none 0 0] ⟨rfl, trivial⟩ (v := .slice none 0 0) rfl ?_
        obtain rfl : p = lz xs := lz_is (by omega) hz (by first | exact .inl (by omega) | exact .inr ⟨x, hx, h2⟩)
        exact ⟨[A], ⟨by first | (exfalso; omega) | rw [if_pos (by omega)] | rw [if_neg (by omega)], rfl⟩, H⟩
      · -- no: ((n - p : Nat) : Int) = 0
        refine k_skip ?_
        refine k_seq ?_
        refine s_region ?_
        refine s_do rfl rfl rfl (d_move rfl rfl) ?_
        refine s_do rfl rfl rfl (d_assign rfl rfl) ?_
        refine s_end ?_
        refine k_ret ?_
        refine doneL rfl [.slice (some ⟨b, (o + p), none⟩) (n - p) (c - p)] ⟨rfl, trivial⟩ (v := .slice (some ⟨b, (o + p), none⟩) (n - p) (c - p)) rfl ?_
        obtain rfl : p = lz xs := lz_is (by omega) hz (by first | exact .inl (by omega) | exact .inr ⟨x, hx, h2⟩)
        exact ⟨[A], ⟨by first | (exfalso; omega) | rw [if_pos (by omega)] | rw [if_neg (by omega)], rfl⟩, H⟩
  · -- no: (0 : Int) < ((n - p : Nat) : Int)
    refine s_skip rfl rfl rfl ?_
    refine s_skip rfl rfl rfl ?_
    refine s_skip rfl rfl rfl ?_
    refine s_skip rfl rfl rfl ?_
    refine s_skip rfl rfl rfl ?_
    refine s_do rfl rfl rfl (d_pick_f rfl rfl rfl) ?_
    refine s_end ?_
    refine k_false rfl ?_
    refine k_exit ?_
    refine k_here ?_
    refine k_seq ?_
    refine k_seq ?_
    refine s_region ?_
    refine s_do rfl rfl rfl (d_move rfl rfl) ?_
    refine s_do rfl rfl rfl (d_len rfl (z := 1) (by kernel_rfl) rfl) ?_
    refine s_do rfl rfl rfl (d_eql rfl rfl rfl) ?_
    refine s_end ?_
    refine k_dec rfl (fun h4 => ?_) (fun h4 => ?_)
    · -- yes: ((n - p : Nat) : Int) = 0
      refine k_seq ?_
      refine s_region ?_
      refine s_do rfl rfl rfl (d_assign rfl rfl) ?_
      refine s_end ?_
      refine k_ret ?_
      refine doneL rfl [.slice none 0 0] ⟨rfl, trivial⟩ (v := .slice none 0 0) rfl ?_
      obtain rfl : p = lz xs := lz_is (by omega) hz (by first | exact .inl (by omega) | exact .inr ⟨x, hx, h2⟩)
      exact ⟨[A], ⟨by first | (exfalso; omega) | rw [if_pos (by omega)] | rw [if_neg (by omega)], rfl⟩, H⟩
    · -- no: ((n - p : Nat) : Int) = 0
      refine k_skip ?_
      refine k_seq ?_
      refine s_region ?_
      refine s_do rfl rfl rfl (d_move rfl rfl) ?_
      refine s_do rfl rfl rfl (d_assign rfl rfl) ?_
      refine s_end ?_
      refine k_ret ?_
      refine doneL rfl [.slice (some ⟨b, (o + p), none⟩) (n - p) (c - p)] ⟨rfl, trivial⟩ (v := .slice (some ⟨b, (o + p), none⟩) (n - p) (c - p)) rfl ?_
      obtain rfl : p = lz xs := lz_is (by omega) hz (by first | exact .inl (by omega) | exact .inr ⟨x, hx, h2⟩)
      exact ⟨[A], ⟨by first | (exfalso; omega) | rw [if_pos (by omega)] | rw [if_neg (by omega)], rfl⟩, H⟩

theorem trim_c (b o n c : Nat) (xs : List UInt8) (A : Asn) (hA : ∀ h, A h → rdH 1 (.slice (some ⟨b, o, none⟩) n c) n (xs.map u8) h) (hn : n < c) : Cn Tryz.prog 73 [.slice (some ⟨b, o, none⟩) n c, str [0]] [A] (fun v Γ => (rz xs = 0 ∧ v = .slice none 0 0 ∧ Γ = [A]) ∨ (rz xs ≠ 0 ∧ ∃ o1 k1 c1, 0 < k1 ∧ v = .slice (some ⟨b, o1, none⟩) k1 c1 ∧ Γ = [A])) := by
  intro z R w H'
  have H : Sep z (A :: R) w := H'
  clear H'
  have hxl := H.says 0 rfl (fun h q => (hA h q).len)
  have hcb := H.says 0 rfl (fun h q => (hA h q).cap)
  have hrz := rz_le xs
  refine enter Tryz.func73 rfl 42 Tryz.ntmps73 rfl ?_
  refine k_seq ?_
  refine s_region ?_
  refine s_do rfl rfl rfl (d_assign rfl rfl) ?_
  refine s_end ?_
  refine k_seq ?_
  refine k_seq ?_
  refine s_region ?_
  refine s_do rfl rfl rfl (d_move rfl rfl) ?_
  refine s_do rfl rfl rfl (d_len rfl (z := 1) (by kernel_rfl) rfl) ?_
  refine s_do rfl rfl rfl (d_eql rfl rfl rfl) ?_
  refine s_end ?_
  refine k_dec rfl (fun h1 => ?_) (fun h1 => ?_)
  · -- yes: (n : Int) = 0
    refine k_seq ?_
    refine s_region ?_
    refine s_do rfl rfl rfl (d_assign rfl rfl) ?_
    refine s_end ?_
    refine k_ret ?_
    refine doneL rfl [.slice none 0 0] ⟨rfl, trivial⟩ (v := .slice none 0 0) rfl ?_
    exact ⟨[A], .inl ⟨by omega, rfl, rfl⟩, H⟩
  · -- no: (n : Int) = 0
    refine k_skip ?_
    refine k_seq ?_
    refine k_seq ?_
    refine s_region ?_
    refine s_do rfl rfl rfl (d_move rfl rfl) ?_
    refine s_do rfl rfl rfl (d_eqlS (l := [0]) (m := []) rfl (by kernel_rfl) rfl rfl) ?_
    refine k_updA 11 (u := .bool (decide (([0] : List UInt8) = []))) (v := .bool false) rfl (congrArg Value.bool (by decide)) ?_
    refine s_end ?_
    refine k_false rfl ?_
    refine k_skip ?_
    refine k_seq ?_
    refine k_seq ?_
    refine s_region ?_
    refine s_do rfl rfl rfl (d_move rfl rfl) ?_
    refine s_do rfl rfl rfl (d_lenStr (l := [0]) rfl (by kernel_rfl) rfl) ?_
    refine s_do rfl rfl rfl (d_eql rfl rfl rfl) ?_
    refine k_updA 15 (u := .bool (decide ((1 : Int) = 1))) (v := .bool true) rfl (congrArg Value.bool (by decide)) ?_
    refine s_do rfl rfl rfl (d_move rfl rfl) ?_
    refine s_do rfl rfl rfl (d_move rfl rfl) ?_
    refine s_do rfl rfl rfl (d_indexS (l := [0]) (j := 0) (b := 0) rfl (by kernel_rfl) rfl rfl rfl rfl) ?_
    refine s_do rfl rfl rfl (d_lss rfl rfl rfl) ?_
    refine k_updA 19 (u := .bool (decide (((0 : UInt8).toNat : Int) < ((128 : UInt8).toNat : Int)))) (v := .bool true) rfl (congrArg Value.bool (by decide)) ?_
    refine s_do rfl rfl rfl (d_pick_t rfl rfl rfl) ?_
    refine s_end ?_
    refine k_true rfl ?_
    refine k_seq ?_
    refine q_region (Sep z (A :: R)) (by kernel_rfl) (by kernel_rfl) H.drew ?_
    refine q_do rfl rfl rfl (d_move rfl rfl) ?_
    refine q_do rfl rfl rfl (d_move rfl rfl) ?_
    refine q_do rfl rfl rfl (d_indexS (l := [0]) (j := 0) (b := 0) rfl (by kernel_rfl) rfl rfl rfl rfl) ?_
    refine q_call rfl rfl rfl rfl rfl (fun w => Tryz.call83 _ w) (v := .slice (some ⟨b, o, none⟩) (rz xs) c) (cq (trimR_c _ _ _ _ xs _ hA hn) (by rintro _ _ ⟨rfl, rfl⟩; exact ⟨rfl, rfl⟩) 1 [0] [0] rfl rfl rfl rfl) ?_
    refine q_do rfl rfl rfl (d_move rfl rfl) ?_
    refine q_do rfl rfl rfl (d_indexS (l := [0]) (j := 0) (b := 0) rfl (by kernel_rfl) rfl rfl rfl rfl) ?_
    refine q_call rfl rfl rfl rfl rfl (fun w => Tryz.call82 _ w) (v := if lz ((xs.drop 0).take (rz xs)) = (rz xs) then .slice none 0 0 else .slice (some ⟨b, o + lz ((xs.drop 0).take (rz xs)), none⟩) ((rz xs) - lz ((xs.drop 0).take (rz xs))) (c - lz ((xs.drop 0).take (rz xs)))) (cq (trimL_c _ _ _ _ ((xs.drop 0).take (rz xs)) _ (fun h q => (hA h q).cut (lo := 0) (m := rz xs) (c' := c) (by omega) (by omega) (by omega)) (by omega)) (by rintro _ _ ⟨rfl, rfl⟩; exact ⟨rfl, rfl⟩) 1 [0] [0] rfl rfl rfl rfl) ?_
    refine q_do rfl rfl rfl (d_assign rfl rfl) ?_
    refine q_end (fun w H' => ?_)
    have H : Sep z (A :: R) w := H'
    clear H'
    refine k_ret ?_
    refine doneL rfl [if lz ((xs.drop 0).take (rz xs)) = (rz xs) then .slice none 0 0 else .slice (some ⟨b, o + lz ((xs.drop 0).take (rz xs)), none⟩) ((rz xs) - lz ((xs.drop 0).take (rz xs))) (c - lz ((xs.drop 0).take (rz xs)))] ⟨rfl, trivial⟩ (v := if lz ((xs.drop 0).take (rz xs)) = (rz xs) then .slice none 0 0 else .slice (some ⟨b, o + lz ((xs.drop 0).take (rz xs)), none⟩) ((rz xs) - lz ((xs.drop 0).take (rz xs))) (c - lz ((xs.drop 0).take (rz xs)))) rfl ?_
    by_cases hz : rz xs = 0
    · exact ⟨[A], .inl ⟨hz, by rw [if_pos]; simp [hz, lz], rfl⟩, H⟩
    · have := lz_rz hz
      exact ⟨[A], .inr ⟨hz, _, rz xs - lz ((xs.drop 0).take (rz xs)), _, by simp; omega, by rw [if_neg (by simp; omega)], rfl⟩, H⟩

theorem bare_c (pr b o n c : Nat) (xs : List UInt8) (A : Asn) (hA : ∀ h, A h → rdH 1 (.slice (some ⟨b, o, none⟩) n c) n (xs.map u8) h) (hn : n < c) : Cn Tryz.prog 58 [.pointer (some ⟨pr, 0, none⟩)] [blk pr [.slice (some ⟨b, o, none⟩) n c] 129, A] (fun v Γ => v = .bool (decide (rz xs = 0)) ∧ Γ = [blk pr [.slice (some ⟨b, o, none⟩) n c] 129, A]) := by
  intro z R w H'
  have H : Sep z (blk pr [.slice (some ⟨b, o, none⟩) n c] 129 :: A :: R) w := H'
  clear H'
  refine enter Tryz.func58 rfl 10 Tryz.ntmps58 rfl ?_
  refine k_seq ?_
  refine s_region ?_
  refine s_do rfl rfl rfl (d_assign rfl rfl) ?_
  refine s_end ?_
  refine k_seq ?_
  refine s_region ?_
  refine s_do rfl rfl rfl (d_move rfl rfl) ?_
  refine s_do rfl rfl rfl (d_nilCheck rfl rfl) ?_
  refine s_do rfl rfl rfl (d_field rfl (k := 0) (r := 0) (by kernel_rfl) rfl rfl) ?_
  refine s_do rfl rfl rfl (d_load rfl rfl (by kernel_rfl) (here (H.cel 0 rfl 0 rfl))) ?_
  refine s_callC rfl rfl rfl rfl rfl (fun w => Tryz.call73 _ w) (trim_c _ _ _ _ xs _ hA hn) H 2 [1, 0] rfl rfl ?_
  rintro _ w _ (⟨hz, rfl, rfl⟩ | ⟨hz, o1, k1, c1, hk1, rfl, rfl⟩) H'
  · -- a case
    have H : Sep z (A :: blk pr [.slice (some ⟨b, o, none⟩) n c] 129 :: R) w := H'
    clear H'
    refine s_do rfl rfl rfl (d_len rfl (z := 1) (by kernel_rfl) rfl) ?_
    refine s_do rfl rfl rfl (d_eql rfl rfl rfl) ?_
    refine k_updA 9 (u := .bool (decide ((0 : Int) = 0))) (v := .bool true) rfl (congrArg Value.bool (by decide)) ?_
    refine s_do rfl rfl rfl (d_assign rfl rfl) ?_
    refine s_end ?_
    refine k_ret ?_
    refine doneL rfl [.bool true] ⟨rfl, trivial⟩ (v := .bool true) rfl ?_
    exact ⟨[blk pr [.slice (some ⟨b, o, none⟩) n c] 129, A], ⟨congrArg Value.bool (by first | (simp [hz]; done) | (rw [Bool.eq_iff_iff]; simp <;> omega)), rfl⟩, H.perm 2 [1, 0] rfl rfl⟩
  · -- a case
    have H : Sep z (A :: blk pr [.slice (some ⟨b, o, none⟩) n c] 129 :: R) w := H'
    clear H'
    refine s_do rfl rfl rfl (d_len rfl (z := 1) (by kernel_rfl) rfl) ?_
    refine s_do rfl rfl rfl (d_eql rfl rfl rfl) ?_
    refine s_do rfl rfl rfl (d_assign rfl rfl) ?_
    refine s_end ?_
    refine k_ret ?_
    refine doneL rfl [.bool (decide ((k1 : Int) = 0))] ⟨rfl, trivial⟩ (v := .bool (decide ((k1 : Int) = 0))) rfl ?_
    exact ⟨[blk pr [.slice (some ⟨b, o, none⟩) n c] 129, A], ⟨congrArg Value.bool (by first | (simp [hz]; done) | (rw [Bool.eq_iff_iff]; simp <;> omega)), rfl⟩, H.perm 2 [1, 0] rfl rfl⟩

theorem sound_c (pt b o c : Nat) (mag sec : List UInt8) (A : Asn) (hA : ∀ h, A h → rdH 1 (.slice (some ⟨b, o, none⟩) 256 c) 256 (sec.map u8) h) : Cn Tryz.prog 56 [.pointer (some ⟨pt, 0, none⟩), .slice (some ⟨b, o, none⟩) 256 c, str mag] [tblA pt, A] (fun v Γ => (sndP mag sec ∧ v = .tuple #[.agg #[.slice (some ⟨b, o + 4, none⟩) 248 (c - 4)], .bool true] ∧ Γ = [tblA pt, A]) ∨ (¬ sndP mag sec ∧ v = .tuple #[.agg #[.slice none 0 0], .bool false] ∧ Γ = [tblA pt, A])) := by
  intro z R w H'
  have H : Sep z (tblA pt :: A :: R) w := H'
  clear H'
  have hsl := H.says 1 rfl (fun h q => (hA h q).len)
  have hcb := H.says 1 rfl (fun h q => (hA h q).cap)
  obtain ⟨c0, c1, c2, c3, hd⟩ := four hsl
  refine enter Tryz.func56 rfl 37 Tryz.ntmps56 rfl ?_
  refine k_seq ?_
  refine s_region ?_
  refine s_go rfl rfl rfl (n_alloc (P := Tryz.prog) H rfl (zs := [.slice none 0 0]) (by kernel_rfl)) ?_
  rintro _ w ⟨b1, rfl, H'⟩
  have H : Sep z (blk b1 [.slice none 0 0] 129 :: tblA pt :: A :: R) w := H'
  clear H'
  refine s_do rfl rfl rfl (d_assign rfl rfl) ?_
  refine s_end ?_
  refine k_seq ?_
  refine k_seq ?_
  refine q_region (Sep z (blk b1 [.slice none 0 0] 129 :: tblA pt :: A :: R)) (by kernel_rfl) (by kernel_rfl) H.drew ?_
  refine q_do rfl rfl rfl (d_move rfl rfl) ?_
  refine q_do rfl rfl rfl (d_eql_pn rfl (by kernel_rfl) rfl rfl) ?_
  refine q_do rfl rfl rfl (d_move rfl rfl) ?_
  refine q_do rfl rfl rfl (d_move rfl rfl) ?_
  refine q_do rfl rfl rfl (d_len rfl (z := 1) (by kernel_rfl) rfl) ?_
  refine q_do rfl rfl rfl (d_neq rfl rfl rfl) ?_
  refine k_updA 13 (u := .bool (decide ((256 : Int) ≠ 256))) (v := .bool false) rfl (congrArg Value.bool (by decide)) ?_
  refine q_do rfl rfl rfl (d_pick_f rfl rfl rfl) ?_
  refine q_do rfl rfl rfl (d_move rfl rfl) ?_
  refine q_do rfl rfl rfl (d_move rfl rfl) ?_
  refine q_do rfl rfl rfl (d_sliceC rfl (z := 1) (p := 252) (q := 256) (o' := o + 252) (l' := 4) (c' := c - 252) (by kernel_rfl) rfl (.inr ⟨_, _, _, rfl, rfl, rfl⟩) (.inl ⟨rfl, rfl⟩) (by omega) (by omega) (by omega) (by omega) (by omega) (by omega)) ?_
  refine q_do rfl rfl rfl (d_arrayAt (m := 4) rfl (by kernel_rfl) rfl (by omega)) ?_
  refine q_do rfl rfl rfl (d_loadAgg rfl rfl (vs := [u8 c0, u8 c1, u8 c2, u8 c3]) (by kernel_rfl) (fun _ hx => hx.cell4 2 rfl hA hd)) ?_
  refine q_do rfl rfl rfl (d_move rfl rfl) ?_
  refine q_do rfl rfl rfl (d_move rfl rfl) ?_
  refine q_do rfl rfl rfl (d_sliceC rfl (z := 1) (p := 0) (q := 252) (o' := o) (l' := 252) (c' := c) (by kernel_rfl) rfl (.inl ⟨rfl, rfl⟩) (.inr ⟨_, _, _, rfl, rfl, rfl⟩) (by omega) (by omega) (by omega) (by omega) (by omega) (by omega)) ?_
  refine q_call rfl rfl rfl rfl rfl (fun w => Tryz.call61 _ w) (v := .agg #[u8 ((crcSum (sec.take 252)).toUInt8), u8 (((crcSum (sec.take 252)) >>> 8).toUInt8), u8 (((crcSum (sec.take 252)) >>> 16).toUInt8), u8 (((crcSum (sec.take 252)) >>> 24).toUInt8)]) (cq (csum_c _ _ _ (sec.take 252) (by simp [hsl]) _ (fun h q => (hA h q).pre (by omega) (by omega))) (by rintro _ _ ⟨rfl, rfl⟩; exact ⟨rfl, rfl⟩) 3 [1, 2, 0] [2, 0, 1] rfl rfl rfl rfl) ?_
  refine q_do rfl rfl rfl (d_neqA4 rfl (by kernel_rfl) (by kernel_rfl) rfl rfl) ?_
  refine q_do rfl rfl rfl (d_pick_f rfl rfl rfl) ?_
  refine q_do rfl rfl rfl (d_move rfl rfl) ?_
  refine q_part 26 rfl (fun h1 => ?_) (fun h1 => ?_)
  · -- yes: [c0, c1, c2, c3] ≠ sumB (crcSum (sec.take 252))
    refine q_skip rfl rfl rfl ?_
    refine q_skip rfl rfl rfl ?_
    refine q_skip rfl rfl rfl ?_
    refine q_skip rfl rfl rfl ?_
    refine q_skip rfl rfl rfl ?_
    refine q_do rfl rfl rfl (d_pick_t rfl rfl rfl) ?_
    refine q_end (fun w H' => ?_)
    have H : Sep z (blk b1 [.slice none 0 0] 129 :: tblA pt :: A :: R) w := H'
    clear H'
    refine k_true rfl ?_
    refine k_seq ?_
    refine s_region ?_
    refine s_do rfl rfl rfl (d_build rfl rfl (out := [.slice none 0 0]) (by kernel_rfl)) ?_
    refine s_put rfl rfl (n_store 0 H rfl rfl rfl rfl (vs := [.slice none 0 0]) rfl (by simp [u8, u32, Value.oneCell']) (by kernel_rfl) (by simp) (out := [.slice none 0 0]) rfl) ?_
    rintro w H'
    have H : Sep z (blk b1 [.slice none 0 0] 129 :: tblA pt :: A :: R) w := H'
    clear H'
    refine s_do rfl rfl rfl (d_assign rfl rfl) ?_
    refine s_end ?_
    refine k_ret ?_
    refine doneL rfl [.agg #[.slice none 0 0], .bool false] ⟨⟨_, _, rfl, run_loadBlk (by kernel_rfl) (H.blk 0 rfl) (vs := [.slice none 0 0]) rfl⟩, ⟨rfl, trivial⟩⟩ (v := .tuple #[.agg #[.slice none 0 0], .bool false]) rfl ?_
    exact ⟨[tblA pt, A], .inr ⟨fun hs => by first | exact absurd (hd ▸ hs.1) ‹_› | exact absurd hs.2 ‹_›, rfl, rfl⟩, H.perm 3 [1, 2] rfl rfl⟩
  · -- no: [c0, c1, c2, c3] ≠ sumB (crcSum (sec.take 252))
    refine q_do rfl rfl rfl (d_move rfl rfl) ?_
    refine q_do rfl rfl rfl (d_sliceC rfl (z := 1) (p := 0) (q := 4) (o' := o) (l' := 4) (c' := c) (by kernel_rfl) rfl (.inl ⟨rfl, rfl⟩) (.inr ⟨_, _, _, rfl, rfl, rfl⟩) (by omega) (by omega) (by omega) (by omega) (by omega) (by omega)) ?_
    refine q_do rfl rfl rfl (d_bytesStr (l := sec.take 4) rfl (by kernel_rfl) (by kernel_rfl) rfl (fun _ hx => hx.rd 2 rfl (fun h q => by have := (hA h q).pre (m := 4) (c' := c) (by omega) (by omega); rwa [show (sec.take 4).length = 4 from by simp [hsl]]))) ?_
    refine q_do rfl rfl rfl (d_move rfl rfl) ?_
    refine q_do rfl rfl rfl (d_neqS (l := sec.take 4) (m := mag) rfl (by kernel_rfl) rfl rfl) ?_
    refine q_do rfl rfl rfl (d_pick_f rfl rfl rfl) ?_
    refine q_end (fun w H' => ?_)
    have H : Sep z (blk b1 [.slice none 0 0] 129 :: tblA pt :: A :: R) w := H'
    clear H'
    refine k_dec rfl (fun h2 => ?_) (fun h2 => ?_)
    · -- yes: (sec.take 4 : List UInt8) ≠ mag
      refine k_seq ?_
      refine s_region ?_
      refine s_do rfl rfl rfl (d_build rfl rfl (out := [.slice none 0 0]) (by kernel_rfl)) ?_
      refine s_put rfl rfl (n_store 0 H rfl rfl rfl rfl (vs := [.slice none 0 0]) rfl (by simp [u8, u32, Value.oneCell']) (by kernel_rfl) (by simp) (out := [.slice none 0 0]) rfl) ?_
      rintro w H'
      have H : Sep z (blk b1 [.slice none 0 0] 129 :: tblA pt :: A :: R) w := H'
      clear H'
      refine s_do rfl rfl rfl (d_assign rfl rfl) ?_
      refine s_end ?_
      refine k_ret ?_
      refine doneL rfl [.agg #[.slice none 0 0], .bool false] ⟨⟨_, _, rfl, run_loadBlk (by kernel_rfl) (H.blk 0 rfl) (vs := [.slice none 0 0]) rfl⟩, ⟨rfl, trivial⟩⟩ (v := .tuple #[.agg #[.slice none 0 0], .bool false]) rfl ?_
      exact ⟨[tblA pt, A], .inr ⟨fun hs => by first | exact absurd (hd ▸ hs.1) ‹_› | exact absurd hs.2 ‹_›, rfl, rfl⟩, H.perm 3 [1, 2] rfl rfl⟩
    · -- no: (sec.take 4 : List UInt8) ≠ mag
      refine k_skip ?_
      refine k_seq ?_
      refine s_region ?_
      refine s_do rfl rfl rfl (d_move rfl rfl) ?_
      refine s_do rfl rfl rfl (d_sliceC rfl (z := 1) (p := 4) (q := 252) (o' := o + 4) (l' := 248) (c' := c - 4) (by kernel_rfl) rfl (.inr ⟨_, _, _, rfl, rfl, rfl⟩) (.inr ⟨_, _, _, rfl, rfl, rfl⟩) (by omega) (by omega) (by omega) (by omega) (by omega) (by omega)) ?_
      refine s_do rfl rfl rfl (d_build rfl rfl (out := [.slice (some ⟨b, (o + 4), none⟩) 248 (c - 4)]) (by kernel_rfl)) ?_
      refine s_put rfl rfl (n_store 0 H rfl rfl rfl rfl (vs := [.slice (some ⟨b, (o + 4), none⟩) 248 (c - 4)]) rfl (by simp [u8, u32, Value.oneCell']) (by kernel_rfl) (by simp) (out := [.slice (some ⟨b, (o + 4), none⟩) 248 (c - 4)]) rfl) ?_
      rintro w H'
      have H : Sep z (blk b1 [.slice (some ⟨b, (o + 4), none⟩) 248 (c - 4)] 129 :: tblA pt :: A :: R) w := H'
      clear H'
      refine s_do rfl rfl rfl (d_assign rfl rfl) ?_
      refine s_end ?_
      refine k_ret ?_
      refine doneL rfl [.agg #[.slice (some ⟨b, (o + 4), none⟩) 248 (c - 4)], .bool true] ⟨⟨_, _, rfl, run_loadBlk (by kernel_rfl) (H.blk 0 rfl) (vs := [.slice (some ⟨b, (o + 4), none⟩) 248 (c - 4)]) rfl⟩, ⟨rfl, trivial⟩⟩ (v := .tuple #[.agg #[.slice (some ⟨b, (o + 4), none⟩) 248 (c - 4)], .bool true]) rfl ?_
      exact ⟨[tblA pt, A], .inl ⟨⟨by rw [hd]; exact Decidable.of_not_not ‹_›, Decidable.of_not_not ‹_›⟩, rfl, rfl⟩, H.perm 3 [1, 2] rfl rfl⟩
end Go.Proofs.YtanejicgmgpjcaaGreatDoor
