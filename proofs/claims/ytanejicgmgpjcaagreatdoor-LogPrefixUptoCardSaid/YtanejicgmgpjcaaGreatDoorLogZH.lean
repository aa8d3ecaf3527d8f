/-
  Walks: flushing and cutting a disk. No condition.
-/
import Derived.Test.YtanejicgmgpjcaaGreatDoorLogZF
import Derived.Test.YtanejicgmgpjcaaGreatDoorLogPb
set_option maxRecDepth 100000
namespace Go.Proofs.YtanejicgmgpjcaaGreatDoor
open Go.RowKit

/-- some sectors made durable already -/
def flS (D : Dsk) (S : List IE) : Dsk := { D with dur := fun i => if (i : Int) ∈ S.map (fun p : IE => p.1) then D.cont i else D.dur i }
theorem ent_row {es : List Ent} {e : Ent} (he : e ∈ es) {h : Hp} (hs : seps (es.map Ent.row) h) : rdH 1 e.v e.pvs.length e.pvs h := by
  obtain ⟨i, hi⟩ := List.getElem?_of_mem he
  obtain ⟨h', hA, hsub⟩ := seps_mem hs (i := i) (A := e.row) (by rw [List.getElem?_map, hi]; rfl)
  exact (grow.rd hA).le hsub
theorem flS_nil {D : Dsk} : flS D [] = D := by simp [flS]
theorem own_put {n k : Nat} {bs q : List UInt8} {dur : Nat → List UInt8} (hl : bs.length = n * 256) (hq : q.length = 256) (hk : k < n) (ho : ∀ i, i < n → (bs.drop (i * 256)).take 256 = dur i) :
    (bs.take (k * 256) ++ q ++ bs.drop (k * 256 + 256)).length = n * 256 ∧ ∀ i, i < n → ((bs.take (k * 256) ++ q ++ bs.drop (k * 256 + 256)).drop (i * 256)).take 256 = if i = k then q else dur i := by
  have hl1 : (bs.take (k * 256)).length = k * 256 := by rw [List.length_take]; omega
  refine ⟨by simp only [List.length_append, List.length_drop, hl1]; omega, fun i hi => ?_⟩
  rcases Nat.lt_trichotomy i k with h | h | h
  · rw [if_neg (by omega), ← ho i hi, List.append_assoc, List.drop_append_of_le_length (by rw [hl1]; omega), List.take_append_of_le_length (by rw [List.length_drop, hl1]; omega), List.drop_take, List.take_take, Nat.min_eq_left (by omega)]
  · subst h
    rw [if_pos rfl, List.append_assoc, List.drop_append, List.drop_of_length_le (by omega), List.nil_append, hl1, Nat.sub_self, List.drop_zero, List.take_append, List.take_of_length_le (by omega), hq]; simp
  · rw [if_neg (by omega), ← ho i hi, List.drop_append, List.drop_of_length_le (by rw [List.length_append, hl1]; omega), List.nil_append, List.length_append, hl1, hq, List.drop_drop]
    congr 2; omega
theorem flS_step {D : Dsk} {S : List IE} {bs : List UInt8} {es : List Ent} {clk : Nat} {hq : Hp} (hD : D.Ok) (hI : (flS D S).In bs es clk hq) {p : IE} {k : Nat} (hp : p.1 = (k : Int)) (hk : k < D.n) : (flS D (S ++ [p])).In (bs.take (k * 256) ++ D.cont k ++ bs.drop (k * 256 + 256)) es clk hq := by
  have ho := own_put (q := D.cont k) hI.len (Dsk.cont_len hD hk) hk hI.own
  refine ⟨ho.1, fun i hi => ?_, hI.ent, hI.all, hI.nodup, hI.born, hI.clk⟩
  rw [ho.2 i hi]
  show _ = (if (i : Int) ∈ (S ++ [p]).map (fun p : IE => p.1) then D.cont i else D.dur i)
  show (if i = k then D.cont k else (if (i : Int) ∈ S.map (fun p : IE => p.1) then D.cont i else D.dur i)) = _
  simp only [List.map_append, List.map_cons, List.map_nil, List.mem_append, List.mem_singleton, hp]
  by_cases h : i = k
  · subst h; rw [if_pos rfl, if_pos (.inr rfl)]
  · rw [if_neg h]
    have : ¬ ((i : Int) = (k : Int)) := by omega
    simp only [this, or_false]
theorem flS_ok {D : Dsk} (hD : D.Ok) (S : List IE) : (flS D S).Ok := ⟨hD.n1, hD.n2, fun i hi => by simp only [flS]; split; exact Dsk.cont_len hD hi; exact hD.dur i hi, hD.ver, hD.f1, hD.f2, hD.f3, hD.left⟩
/-- all of them -/
theorem flS_all {D : Dsk} {S : List IE} {bs : List UInt8} {es : List Ent} {clk : Nat} {hq : Hp} (hI : (flS D S).In bs es clk hq) (hf : leftL (es.map Ent.ie) (S.map fun p : IE => p.2.2) = []) (hS : ∀ p ∈ S, p ∈ es.map Ent.ie) : Dsk.In { D with dur := D.cont, ver := fun _ => [] } bs [] clk hq := by
  have key : ∀ i, i < D.n → (flS D S).dur i = D.cont i := fun i hi => by
    simp only [flS]
    split
    · rfl
    · rename_i hn
      by_cases hv : D.ver i = []
      · exact (cont_nil hv).symm
      · obtain ⟨e, he, hk⟩ := hI.all i hi hv
        exfalso
        have hm : e.ie ∈ es.map Ent.ie := List.mem_map_of_mem he
        by_cases q : e.born ∈ S.map fun p : IE => p.2.2
        · obtain ⟨p, hp, hb⟩ := List.mem_map.1 q
          obtain ⟨e', he', rfl⟩ := List.mem_map.1 (hS p hp)
          obtain ⟨i1, h1⟩ := List.getElem?_of_mem he
          obtain ⟨i2, h2⟩ := List.getElem?_of_mem he'
          have := nodup_idx hI.born h1 h2 hb.symm
          subst this
          rw [h1] at h2; cases h2
          exact hn (List.mem_map.2 ⟨_, hp, by show (e.key : Int) = i; omega⟩)
        · have : e.ie ∈ leftL (es.map Ent.ie) (S.map fun p : IE => p.2.2) := by
            simp only [leftL, List.mem_filter]
            exact ⟨hm, by simpa [Ent.ie] using q⟩
          rw [hf] at this; cases this
  exact ⟨hI.len, fun i hi => (hI.own i hi).trans (key i hi), fun e he => (by cases he), fun i hi h => absurd rfl h, by simp, by simp, fun e he => (by cases he)⟩
theorem cl_ok {D : Dsk} (hD : D.Ok) {f : Nat → List UInt8} (hf : ∀ i, i < D.n → (f i).length = 256) {a b c e : Int} {d : Bool} (ha : 0 ≤ a ∧ a ≤ 1099511627776) (hb : 0 ≤ b ∧ b ≤ 1099511627776) (hc : 0 ≤ c ∧ c ≤ 1099511627776) (he : 0 ≤ e ∧ e ≤ 1099511627776) : Dsk.Ok ⟨D.n, f, fun _ => [], a, b, c, d, e⟩ :=
  ⟨hD.n1, hD.n2, hf, fun i hi p hp => (by cases hp), ha, hb, hc, he⟩

theorem cr_step {D : Dsk} {f : Nat → List UInt8} {bs : List UInt8} {es : List Ent} {clk : Nat} {hq : Hp} (hI : Dsk.In { D with dur := f } bs es clk hq) {p : List UInt8} (hp : p.length = 256) {k : Nat} (hk : k < D.n) : Dsk.In { D with dur := fun i => if i = k then p else f i } (bs.take (k * 256) ++ p ++ bs.drop (k * 256 + 256)) es clk hq := by
  have ho := own_put hI.len hp hk hI.own
  exact ⟨ho.1, ho.2, hI.ent, hI.all, hI.nodup, hI.born, hI.clk⟩
theorem cr_end {D : Dsk} {f : Nat → List UInt8} {bs : List UInt8} {es : List Ent} {clk : Nat} {hq : Hp} (hI : Dsk.In { D with dur := f } bs es clk hq) {a b c e : Int} {d : Bool} : Dsk.In ⟨D.n, f, fun _ => [], a, b, c, d, e⟩ bs [] clk hq :=
  ⟨hI.len, hI.own, fun e he => (by cases he), fun i hi h => absurd rfl h, by simp, by simp, fun e he => (by cases he)⟩
theorem cut_c (pd : Nat) (D : Dsk) (x : Int) : Cn Tryz.prog 17 [.pointer (some ⟨pd, 0, none⟩), .int .i64 x] [diskA pd D] (fun v Γ => (¬ (0 ≤ x ∧ x ≤ 1099511627776) ∧ v = .int .i64 1 ∧ Γ = [diskA pd D]) ∨ ((0 ≤ x ∧ x ≤ 1099511627776) ∧ v = .int .i64 0 ∧ Γ = [diskA pd { D with cut := true, left := x }])) := by
  intro z R w H'
  have H : Sep z (diskA pd D :: R) w := H'
  clear H'
  obtain ⟨bd, m, f0, bs, es, clk, hq, hD, hIn, H'⟩ := H.disk
  clear H
  have hn1 := hD.n1; have hn2 := hD.n2; have hf1 := hD.f1; have hf2 := hD.f2; have hf3 := hD.f3; have hlf := hD.left; have hbl := hIn.len
  have H : Sep z (blk pd [.slice (some ⟨bd, 0, none⟩) (D.n * 256) (D.n * 256), .map (some m), .int .i64 f0, .int .i64 D.f1, .int .i64 D.f2, .int .i64 D.f3, .bool D.cut, .int .i64 D.left] 74 :: blk bd (bs.map u8) 5 :: mapB m (es.map Ent.ie) clk :: poolA hq :: seps (es.map Ent.row) :: R) w := H'
  clear H'
  refine enter Tryz.func17 rfl 18 Tryz.ntmps17 rfl ?_
  refine k_seq ?_
  refine s_region ?_
  refine s_do rfl rfl rfl (d_assign rfl rfl) ?_
  refine s_end ?_
  refine k_seq ?_
  refine k_seq ?_
  refine s_region ?_
  refine s_do rfl rfl rfl (d_move rfl rfl) ?_
  refine s_do rfl rfl rfl (d_lss rfl rfl rfl) ?_
  refine s_do rfl rfl rfl (d_move rfl rfl) ?_
  refine s_part 7 rfl (fun h1 => ?_) (fun h1 => ?_)
  · -- yes: (x : Int) < 0
    refine s_skip rfl rfl rfl ?_
    refine s_skip rfl rfl rfl ?_
    refine s_do rfl rfl rfl (d_pick_t rfl rfl rfl) ?_
    refine s_end ?_
    refine k_true rfl ?_
    refine k_seq ?_
    refine s_region ?_
    refine s_do rfl rfl rfl (d_assign rfl rfl) ?_
    refine s_end ?_
    refine k_ret ?_
    refine doneL rfl [.int .i64 1] ⟨rfl, trivial⟩ (v := .int .i64 1) rfl ?_
    have H' := Sep.toDisk (D := D) (pd := pd) (bd := bd) (m := m) (f0 := f0) (bs := bs) (es := es) (clk := clk) (hq := hq) (Γ := R) H hD hIn
    have H : Sep z (diskA pd D :: R) w := H'
    clear H'
    exact ⟨[diskA pd D], .inl ⟨by omega, rfl, rfl⟩, H⟩
  · -- no: (x : Int) < 0
    refine s_do rfl rfl rfl (d_move rfl rfl) ?_
    refine s_do rfl rfl rfl (d_gtr rfl rfl rfl) ?_
    refine s_do rfl rfl rfl (d_pick_f rfl rfl rfl) ?_
    refine s_end ?_
    refine k_dec rfl (fun h2 => ?_) (fun h2 => ?_)
    · -- yes: (1099511627776 : Int) < x
      refine k_seq ?_
      refine s_region ?_
      refine s_do rfl rfl rfl (d_assign rfl rfl) ?_
      refine s_end ?_
      refine k_ret ?_
      refine doneL rfl [.int .i64 1] ⟨rfl, trivial⟩ (v := .int .i64 1) rfl ?_
      have H' := Sep.toDisk (D := D) (pd := pd) (bd := bd) (m := m) (f0 := f0) (bs := bs) (es := es) (clk := clk) (hq := hq) (Γ := R) H hD hIn
      have H : Sep z (diskA pd D :: R) w := H'
      clear H'
      exact ⟨[diskA pd D], .inl ⟨by omega, rfl, rfl⟩, H⟩
    · -- no: (1099511627776 : Int) < x
      refine k_skip ?_
      refine k_seq ?_
      refine s_region ?_
      refine s_do rfl rfl rfl (d_move rfl rfl) ?_
      refine s_do rfl rfl rfl (d_move rfl rfl) ?_
      refine s_do rfl rfl rfl (d_move rfl rfl) ?_
      refine s_do rfl rfl rfl (d_nilCheck rfl rfl) ?_
      refine s_do rfl rfl rfl (d_field rfl (k := 6) (r := 6) (by kernel_rfl) rfl rfl) ?_
      refine s_put rfl rfl (n_store 0 H rfl rfl rfl rfl (vs := [.bool true]) rfl (by simp [u8, u32, Value.oneCell']) (by kernel_rfl) (by simp) (out := [.slice (some ⟨bd, 0, none⟩) (D.n * 256) (D.n * 256), .map (some m), .int .i64 f0, .int .i64 D.f1, .int .i64 D.f2, .int .i64 D.f3, .bool true, .int .i64 D.left]) rfl) ?_
      rintro w H'
      have H : Sep z (blk pd [.slice (some ⟨bd, 0, none⟩) (D.n * 256) (D.n * 256), .map (some m), .int .i64 f0, .int .i64 D.f1, .int .i64 D.f2, .int .i64 D.f3, .bool true, .int .i64 D.left] 74 :: blk bd (bs.map u8) 5 :: mapB m (es.map Ent.ie) clk :: poolA hq :: seps (es.map Ent.row) :: R) w := H'
      clear H'
      refine s_do rfl rfl rfl (d_nilCheck rfl rfl) ?_
      refine s_do rfl rfl rfl (d_field rfl (k := 7) (r := 7) (by kernel_rfl) rfl rfl) ?_
      refine s_put rfl rfl (n_store 0 H rfl rfl rfl rfl (vs := [.int .i64 x]) rfl (by simp [u8, u32, Value.oneCell']) (by kernel_rfl) (by simp) (out := [.slice (some ⟨bd, 0, none⟩) (D.n * 256) (D.n * 256), .map (some m), .int .i64 f0, .int .i64 D.f1, .int .i64 D.f2, .int .i64 D.f3, .bool true, .int .i64 x]) rfl) ?_
      rintro w H'
      have H : Sep z (blk pd [.slice (some ⟨bd, 0, none⟩) (D.n * 256) (D.n * 256), .map (some m), .int .i64 f0, .int .i64 D.f1, .int .i64 D.f2, .int .i64 D.f3, .bool true, .int .i64 x] 74 :: blk bd (bs.map u8) 5 :: mapB m (es.map Ent.ie) clk :: poolA hq :: seps (es.map Ent.row) :: R) w := H'
      clear H'
      refine s_end ?_
      refine k_seq ?_
      refine s_region ?_
      refine s_do rfl rfl rfl (d_assign rfl rfl) ?_
      refine s_end ?_
      refine k_ret ?_
      refine doneL rfl [.int .i64 0] ⟨rfl, trivial⟩ (v := .int .i64 0) rfl ?_
      have H' := Sep.toDisk (D := { D with cut := true, left := x }) (pd := pd) (bd := bd) (m := m) (f0 := f0) (bs := bs) (es := es) (clk := clk) (hq := hq) (Γ := R) H (hD.f hD.f1 hD.f2 hD.f3 (by omega)) (hIn.f _ _ _ _ _)
      have H : Sep z (diskA pd ({ D with cut := true, left := x }) :: R) w := H'
      clear H'
      exact ⟨[diskA pd ({ D with cut := true, left := x })], .inr ⟨by omega, rfl, rfl⟩, H⟩

set_option maxHeartbeats 1000000 in
theorem flush_c (pd : Nat) (D : Dsk) : Cn Tryz.prog 16 [.pointer (some ⟨pd, 0, none⟩)] [diskA pd D] (fun v Γ => ((D.f3 = 1 ∨ (D.cut = true ∧ D.left = 0)) ∧ v = .int .i64 12 ∧ Γ = [diskA pd { D with f3 := tick D.f3 }]) ∨ (¬ (D.f3 = 1 ∨ (D.cut = true ∧ D.left = 0)) ∧ v = .int .i64 0 ∧ Γ = [diskA pd D.fl])) := by
  intro z R w H'
  have H : Sep z (diskA pd D :: R) w := H'
  clear H'
  obtain ⟨bd, m, f0, bs, es, clk, hq, hD, hIn, H'⟩ := H.disk
  clear H
  have hn1 := hD.n1; have hn2 := hD.n2; have hf1 := hD.f1; have hf2 := hD.f2; have hf3 := hD.f3; have hlf := hD.left; have hbl := hIn.len
  have H : Sep z (blk pd [.slice (some ⟨bd, 0, none⟩) (D.n * 256) (D.n * 256), .map (some m), .int .i64 f0, .int .i64 D.f1, .int .i64 D.f2, .int .i64 D.f3, .bool D.cut, .int .i64 D.left] 74 :: blk bd (bs.map u8) 5 :: mapB m (es.map Ent.ie) clk :: poolA hq :: seps (es.map Ent.row) :: R) w := H'
  clear H'
  have hold : ∀ p ∈ es.map Ent.ie, p.2.2 < clk := fun p hp => by obtain ⟨e, he, rfl⟩ := List.mem_map.1 hp; exact hIn.clk e he
  have hmm : (es.map Ent.ie).map (fun p : IE => p.2.2) = es.map Ent.born := by rw [List.map_map]; rfl
  have hn : ((es.map Ent.ie).map fun p : IE => p.2.2).Nodup := by rw [hmm]; exact hIn.born
  refine enter Tryz.func16 rfl 44 Tryz.ntmps16 rfl ?_
  refine k_seq ?_
  refine s_region ?_
  refine s_do rfl rfl rfl (d_assign rfl rfl) ?_
  refine s_end ?_
  refine k_seq ?_
  refine k_seq ?_
  refine s_region ?_
  refine s_do rfl rfl rfl (d_move rfl rfl) ?_
  refine s_callC rfl rfl rfl rfl rfl (fun w => Tryz.call28 _ w) (fails3_c _ _ _ _ _ _ _ _ _ _ (by omega)) H 1 [0] rfl rfl ?_
  rintro _ w _ ⟨rfl, rfl⟩ H'
  have H : Sep z (blk pd [.slice (some ⟨bd, 0, none⟩) (D.n * 256) (D.n * 256), .map (some m), .int .i64 f0, .int .i64 D.f1, .int .i64 D.f2, .int .i64 (if D.f3 = 0 then 0 else D.f3 - 1), .bool D.cut, .int .i64 D.left] 74 :: blk bd (bs.map u8) 5 :: mapB m (es.map Ent.ie) clk :: poolA hq :: seps (es.map Ent.row) :: R) w := H'
  clear H'
  refine s_do rfl rfl rfl (d_move rfl rfl) ?_
  refine s_part 7 rfl (fun h1 => ?_) (fun h1 => ?_)
  · -- yes: D.f3 = 1
    refine s_skip rfl rfl rfl ?_
    refine s_skip rfl rfl rfl ?_
    refine s_do rfl rfl rfl (d_pick_t rfl rfl rfl) ?_
    refine s_end ?_
    refine k_true rfl ?_
    refine k_seq ?_
    refine s_region ?_
    refine s_do rfl rfl rfl (d_assign rfl rfl) ?_
    refine s_end ?_
    refine k_ret ?_
    refine doneL rfl [.int .i64 12] ⟨rfl, trivial⟩ (v := .int .i64 12) rfl ?_
    have H' := Sep.toDisk (D := { D with f3 := tick D.f3 }) (pd := pd) (bd := bd) (m := m) (f0 := f0) (bs := bs) (es := es) (clk := clk) (hq := hq) (Γ := R) H (hD.f hD.f1 hD.f2 (tick_in hD.f3) hD.left) (hIn.f _ _ _ _ _)
    have H : Sep z (diskA pd ({ D with f3 := tick D.f3 }) :: R) w := H'
    clear H'
    exact ⟨[diskA pd { D with f3 := tick D.f3 }], .inl ⟨by simp_all, rfl, rfl⟩, H⟩
  · -- no: D.f3 = 1
    refine s_do rfl rfl rfl (d_move rfl rfl) ?_
    refine s_callC rfl rfl rfl rfl rfl (fun w => Tryz.call29 _ w) (down_c _ _ _ _ _ _ _ _ _ _) H 1 [0] rfl rfl ?_
    rintro _ w _ ⟨rfl, rfl⟩ H'
    have H : Sep z (blk pd [.slice (some ⟨bd, 0, none⟩) (D.n * 256) (D.n * 256), .map (some m), .int .i64 f0, .int .i64 D.f1, .int .i64 D.f2, .int .i64 (if D.f3 = 0 then 0 else D.f3 - 1), .bool D.cut, .int .i64 D.left] 74 :: blk bd (bs.map u8) 5 :: mapB m (es.map Ent.ie) clk :: poolA hq :: seps (es.map Ent.row) :: R) w := H'
    clear H'
    refine s_do rfl rfl rfl (d_pick_f rfl rfl rfl) ?_
    refine s_end ?_
    refine k_cond rfl (fun h2 => ?_) (fun h2 => ?_)
    · -- yes: D.cut && decide (D.left = 0)
      refine k_seq ?_
      refine s_region ?_
      refine s_do rfl rfl rfl (d_assign rfl rfl) ?_
      refine s_end ?_
      refine k_ret ?_
      refine doneL rfl [.int .i64 12] ⟨rfl, trivial⟩ (v := .int .i64 12) rfl ?_
      have H' := Sep.toDisk (D := { D with f3 := tick D.f3 }) (pd := pd) (bd := bd) (m := m) (f0 := f0) (bs := bs) (es := es) (clk := clk) (hq := hq) (Γ := R) H (hD.f hD.f1 hD.f2 (tick_in hD.f3) hD.left) (hIn.f _ _ _ _ _)
      have H : Sep z (diskA pd ({ D with f3 := tick D.f3 }) :: R) w := H'
      clear H'
      exact ⟨[diskA pd { D with f3 := tick D.f3 }], .inl ⟨by simp_all, rfl, rfl⟩, H⟩
    · -- no: D.cut && decide (D.left = 0)
      refine k_skip ?_
      refine k_seq ?_
      refine k_seq ?_
      refine s_region ?_
      refine s_do rfl rfl rfl (d_move rfl rfl) ?_
      refine s_do rfl rfl rfl (d_nilCheck rfl rfl) ?_
      refine s_do rfl rfl rfl (d_field rfl (k := 1) (r := 1) (by kernel_rfl) rfl rfl) ?_
      refine s_do rfl rfl rfl (d_load rfl rfl (by kernel_rfl) (here (H.cel 0 rfl 1 rfl))) ?_
      refine s_go rfl rfl rfl (n_range 2 (e := 90) H rfl rfl (by kernel_rfl) rfl) ?_
      rintro _ w ⟨rr, rfl, H'⟩
      have H : Sep z (itB rr m clk ([]) :: blk pd [.slice (some ⟨bd, 0, none⟩) (D.n * 256) (D.n * 256), .map (some m), .int .i64 f0, .int .i64 D.f1, .int .i64 D.f2, .int .i64 (if D.f3 = 0 then 0 else D.f3 - 1), .bool D.cut, .int .i64 D.left] 74 :: blk bd (bs.map u8) 5 :: mapB m (es.map Ent.ie) clk :: poolA hq :: seps (es.map Ent.row) :: R) w := H'
      clear H'
      refine s_end ?_
      refine k_block ?_
      refine c_loop (σ := List IE × List UInt8) (fun ⟨S, bs2⟩ => [(0, .pointer (some ⟨pd, 0, none⟩)), (2, .int .i64 0), (15, .pointer (some ⟨rr, 0, none⟩))])
        (fun ⟨S, bs2⟩ w => Sep z (itB rr m clk (S.map fun p : IE => p.2.2) :: blk pd [.slice (some ⟨bd, 0, none⟩) (D.n * 256) (D.n * 256), .map (some m), .int .i64 f0, .int .i64 D.f1, .int .i64 D.f2, .int .i64 (if D.f3 = 0 then 0 else D.f3 - 1), .bool D.cut, .int .i64 D.left] 74 :: blk bd (bs2.map u8) 5 :: mapB m (es.map Ent.ie) clk :: poolA hq :: seps (es.map Ent.row) :: R) w ∧ ((∀ p ∈ S, p ∈ es.map Ent.ie) ∧ (flS D S).In bs2 es clk hq)) (fun ⟨S, bs2⟩ => (leftL (es.map Ent.ie) (S.map fun p : IE => p.2.2)).length) ⟨[], bs⟩
        (fun _ hF => (hF.cons (hF.cons (hF.cons hF.nil 15 _ _ rfl rfl) 2 _ _ rfl rfl) 0 _ _ rfl rfl)) ⟨H, fun p hp => absurd hp (by simp), by rw [flS_nil]; exact hIn⟩ ?_
      clear H; rintro ⟨S, bs2⟩ w ⟨H', hI⟩
      dsimp only at hI H' ⊢
      have H : Sep z (itB rr m clk (S.map fun p : IE => p.2.2) :: blk pd [.slice (some ⟨bd, 0, none⟩) (D.n * 256) (D.n * 256), .map (some m), .int .i64 f0, .int .i64 D.f1, .int .i64 D.f2, .int .i64 (if D.f3 = 0 then 0 else D.f3 - 1), .bool D.cut, .int .i64 D.left] 74 :: blk bd (bs2.map u8) 5 :: mapB m (es.map Ent.ie) clk :: poolA hq :: seps (es.map Ent.row) :: R) w := H'
      clear H'
      obtain ⟨hS, hIn2⟩ := hI
      refine k_seq ?_
      refine s_region ?_
      refine s_go rfl rfl rfl (n_next 0 3 H rfl rfl rfl rfl hold) ?_
      rintro _ w ⟨qx, rfl, hqx, H'⟩
      have H : Sep z (itB rr m clk (nxS (S.map fun p : IE => p.2.2) qx) :: blk pd [.slice (some ⟨bd, 0, none⟩) (D.n * 256) (D.n * 256), .map (some m), .int .i64 f0, .int .i64 D.f1, .int .i64 D.f2, .int .i64 (if D.f3 = 0 then 0 else D.f3 - 1), .bool D.cut, .int .i64 D.left] 74 :: blk bd (bs2.map u8) 5 :: mapB m (es.map Ent.ie) clk :: poolA hq :: seps (es.map Ent.row) :: R) w := H'
      clear H'
      refine s_do rfl rfl rfl (d_nx0 rfl rfl) ?_
      refine s_end ?_
      refine k_seq ?_
      refine k_cond rfl (fun h3 => ?_) (fun h3 => ?_)
      · -- yes: qx.isSome
        obtain ⟨p1, rfl⟩ := Option.isSome_iff_exists.1 h3
        refine k_skip ?_
        refine k_block ?_
        refine k_seq ?_
        refine s_region ?_
        obtain ⟨⟨ke, ve, pvs, ps, bo⟩, hee, rfl⟩ := List.mem_map.1 (leftL_mem hqx).1
        obtain ⟨he1, he2, he3, he4, he5⟩ := hIn2.ent _ hee
        obtain ⟨ao, cc, hve⟩ := H.says 5 rfl (fun h q => (ent_row hee q).slc)
        dsimp only at hve he1 he2 he3 he4 he5
        subst hve
        have hrow := H.rd 5 rfl (fun h q => ent_row hee q)
        have hpm := H.says 5 rfl (fun h q => (ent_row hee q).small)
        dsimp only at hpm
        have hpl0 : 0 < pvs.length := by rw [he3]; exact List.length_pos_iff.2 he4
        have hken : ke < D.n := he1
        obtain ⟨pv, hpv⟩ : ∃ pv, pvs[pvs.length - 1]? = some pv := ⟨_, List.getElem?_eq_getElem (by omega)⟩
        obtain ⟨p, hp⟩ : ∃ p, ps[pvs.length - 1]? = some p := ⟨_, List.getElem?_eq_getElem (by omega)⟩
        have hcp : D.cont ke = p := cont_last (n := pvs.length) (by rw [he3, he2]; rfl) (by rw [show D.ver ke = ps from he2.symm]; exact hp)
        obtain ⟨hp256, hprd⟩ := he5 _ _ _ hpv hp
        have hat := hrow.at hpv
        refine s_do rfl rfl rfl (d_entry (p := (Ent.ie ⟨ke, .slice ao pvs.length cc, pvs, ps, bo⟩)) rfl rfl (here ⟨H.bk 0 rfl, H.bk 3 rfl⟩) (List.mem_map_of_mem hee) hn) ?_
        refine s_do rfl rfl rfl (d_extract rfl rfl rfl) ?_
        refine s_do rfl rfl rfl (d_extract rfl rfl rfl) ?_
        refine s_do rfl rfl rfl (d_assign rfl rfl) ?_
        refine s_do rfl rfl rfl (d_assign rfl rfl) ?_
        refine s_end ?_
        refine l_region (Sep z (itB rr m clk (nxS (S.map fun p : IE => p.2.2) (some (Ent.ie ⟨ke, .slice ao pvs.length cc, pvs, ps, bo⟩))) :: blk pd [.slice (some ⟨bd, 0, none⟩) (D.n * 256) (D.n * 256), .map (some m), .int .i64 f0, .int .i64 D.f1, .int .i64 D.f2, .int .i64 (if D.f3 = 0 then 0 else D.f3 - 1), .bool D.cut, .int .i64 D.left] 74 :: blk bd (bs2.map u8) 5 :: mapB m (es.map Ent.ie) clk :: poolA hq :: seps (es.map Ent.row) :: R)) 10 rfl (by kernel_rfl) (fun w' x' _ => ?_)
        have H' := H.ext0 x'; clear x' H; revert H'; generalize w' = w; intro H'
        have H : Sep z (itB rr m clk (nxS (S.map fun p : IE => p.2.2) (some (Ent.ie ⟨ke, .slice ao pvs.length cc, pvs, ps, bo⟩))) :: blk pd [.slice (some ⟨bd, 0, none⟩) (D.n * 256) (D.n * 256), .map (some m), .int .i64 f0, .int .i64 D.f1, .int .i64 D.f2, .int .i64 (if D.f3 = 0 then 0 else D.f3 - 1), .bool D.cut, .int .i64 D.left] 74 :: blk bd (bs2.map u8) 5 :: mapB m (es.map Ent.ie) clk :: poolA hq :: seps (es.map Ent.row) :: R) w := H'
        clear H'
        refine l_do 0 (by kernel_rfl) rfl rfl (by kernel_rfl) (by kernel_rfl) (by kernel_rfl) rfl rfl rfl (d_move rfl rfl) (H.pick 6 [0, 1, 2, 3, 4, 5] rfl) ?_
        refine l_do 1 (by kernel_rfl) rfl rfl (by kernel_rfl) (by kernel_rfl) (by kernel_rfl) rfl rfl rfl (d_move rfl rfl) (H.pick 6 [0, 1, 2, 3, 4, 5] rfl) ?_
        refine l_do 3 (by kernel_rfl) rfl rfl (by kernel_rfl) (by kernel_rfl) (by kernel_rfl) rfl rfl rfl (d_move rfl rfl) (H.pick 6 [0, 1, 2, 3, 4, 5] rfl) ?_
        refine l_do 4 (by kernel_rfl) rfl rfl (by kernel_rfl) (by kernel_rfl) (by kernel_rfl) rfl rfl rfl (d_move rfl rfl) (H.pick 6 [0, 1, 2, 3, 4, 5] rfl) ?_
        refine l_do 5 (by kernel_rfl) rfl rfl (by kernel_rfl) (by kernel_rfl) (by kernel_rfl) rfl rfl rfl (d_len rfl (z := 1) (by kernel_rfl) rfl) (H.pick 6 [0, 1, 2, 3, 4, 5] rfl) ?_
        refine l_do 6 (by kernel_rfl) rfl rfl (by kernel_rfl) (by kernel_rfl) (by kernel_rfl) rfl rfl rfl (d_sub64 rfl rfl rfl (r := ((pvs.length - 1 : Nat) : Int)) (by omega) (by omega)) (H.pick 6 [0, 1, 2, 3, 4, 5] rfl) ?_
        refine l_do 7 (by kernel_rfl) rfl rfl (by kernel_rfl) (by kernel_rfl) (by kernel_rfl) rfl rfl rfl (d_indexE rfl (z := 1) (j := (pvs.length - 1)) (r := (pvs.length - 1)) (by kernel_rfl) rfl rfl rfl (by omega) hat (by omega)) (H.pick 6 [0, 1, 2, 3, 4, 5] rfl) ?_
        refine l_do 8 (by kernel_rfl) rfl rfl (by kernel_rfl) (by kernel_rfl) (by kernel_rfl) rfl rfl rfl (d_loadE rfl rfl (by kernel_rfl) (fun _ hx => (hx.rd 5 rfl (fun h q => ent_row hee q)).at hpv)) (H.pick 6 [0, 1, 2, 3, 4, 5] rfl) ?_
        refine l_all [2] (by kernel_rfl) (by simp) ?_
        refine all1 ?_
        refine o_callC rfl rfl rfl rfl rfl rfl (fun w => Tryz.call30 _ w) (own_c _ _ _ _ _ _ _ _ _ _ ke (by omega) (by omega)) H 2 [1, 0] rfl rfl ?_
        rintro _ w _ ⟨rfl, rfl⟩ H'
        have H : Sep z (blk pd [.slice (some ⟨bd, 0, none⟩) (D.n * 256) (D.n * 256), .map (some m), .int .i64 f0, .int .i64 D.f1, .int .i64 D.f2, .int .i64 (if D.f3 = 0 then 0 else D.f3 - 1), .bool D.cut, .int .i64 D.left] 74 :: itB rr m clk (nxS (S.map fun p : IE => p.2.2) (some (Ent.ie ⟨ke, .slice ao pvs.length cc, pvs, ps, bo⟩))) :: blk bd (bs2.map u8) 5 :: mapB m (es.map Ent.ie) clk :: poolA hq :: seps (es.map Ent.row) :: R) w := H'
        clear H'
        refine l_and (fun _ => (H.pick 6 [1, 0, 2, 3, 4, 5] rfl)) ?_
        refine l_all [9] (by kernel_rfl) (by simp) ?_
        refine all1 ?_
        refine o_go rfl rfl rfl rfl (n_copy 2 H rfl rfl (by kernel_rfl) rfl rfl (m := 256) (news := (p.map u8)) (.inl (H.rd 4 rfl (fun h q => hprd.le q))) (by simp [u8, Value.oneCell']) (by have := hIn2.len; simp; omega) (k := 256) (by omega) (out := ((bs2.take (ke * 256) ++ p ++ bs2.drop (ke * 256 + 256)).map u8)) (by simp [hp256, List.take_of_length_le])) ?_
        rintro _ w ⟨rfl, H'⟩
        have H : Sep z (blk pd [.slice (some ⟨bd, 0, none⟩) (D.n * 256) (D.n * 256), .map (some m), .int .i64 f0, .int .i64 D.f1, .int .i64 D.f2, .int .i64 (if D.f3 = 0 then 0 else D.f3 - 1), .bool D.cut, .int .i64 D.left] 74 :: itB rr m clk (nxS (S.map fun p : IE => p.2.2) (some (Ent.ie ⟨ke, .slice ao pvs.length cc, pvs, ps, bo⟩))) :: blk bd ((bs2.take (ke * 256) ++ p ++ bs2.drop (ke * 256 + 256)).map u8) 5 :: mapB m (es.map Ent.ie) clk :: poolA hq :: seps (es.map Ent.row) :: R) w := H'
        clear H'
        refine l_and (fun h => absurd rfl h) ?_
        refine l_done (by kernel_rfl) ?_
        have H' := H.pick 6 [1, 0, 2, 3, 4, 5] rfl
        have H : Sep z (itB rr m clk (nxS (S.map fun p : IE => p.2.2) (some (Ent.ie ⟨ke, .slice ao pvs.length cc, pvs, ps, bo⟩))) :: blk pd [.slice (some ⟨bd, 0, none⟩) (D.n * 256) (D.n * 256), .map (some m), .int .i64 f0, .int .i64 D.f1, .int .i64 D.f2, .int .i64 (if D.f3 = 0 then 0 else D.f3 - 1), .bool D.cut, .int .i64 D.left] 74 :: blk bd ((bs2.take (ke * 256) ++ p ++ bs2.drop (ke * 256 + 256)).map u8) 5 :: mapB m (es.map Ent.ie) clk :: poolA hq :: seps (es.map Ent.row) :: R) w := H'
        clear H'
        intro _ hF
        refine ⟨⟨S ++ [(Ent.ie ⟨ke, .slice ao pvs.length cc, pvs, ps, bo⟩)], (bs2.take (ke * 256) ++ p ++ bs2.drop (ke * 256 + 256))⟩, (hF.cons (hF.cons (hF.cons hF.nil 15 _ _ rfl rfl) 2 _ _ rfl rfl) 0 _ _ rfl rfl), ⟨(by dsimp only; rw [List.map_append]; exact H), ?_⟩, ?_⟩
        · refine ⟨fun p hp => ?_, ?_⟩
          · rcases List.mem_append.1 hp with hp | hp
            · exact hS p hp
            · simp at hp; subst hp; exact List.mem_map_of_mem hee
          · have := flS_step hD hIn2 (p := (Ent.ie ⟨ke, .slice ao pvs.length cc, pvs, ps, bo⟩)) (k := ke) rfl hken
            rwa [hcp] at this
        · (dsimp only; have := leftL_less hqx; rwa [show (S ++ [(Ent.ie ⟨ke, .slice ao pvs.length cc, pvs, ps, bo⟩)]).map (fun p : IE => p.2.2) = (S.map fun p : IE => p.2.2) ++ [bo] from by simp [Ent.ie]])
      · -- no: qx.isSome
        obtain rfl : qx = none := by simpa using h3
        refine k_exit ?_
        refine k_here ?_
        refine k_seq ?_
        have hfin := flS_all hIn2 hqx hS
        refine s_region ?_
        refine s_do rfl rfl rfl (d_move rfl rfl) ?_
        refine s_do rfl rfl rfl (d_nilCheck rfl rfl) ?_
        refine s_do rfl rfl rfl (d_field rfl (k := 1) (r := 1) (by kernel_rfl) rfl rfl) ?_
        refine s_do rfl rfl rfl (d_load rfl rfl (by kernel_rfl) (here (H.cel 1 rfl 1 rfl))) ?_
        refine s_go0 rfl rfl (n_clear 3 (e := 90) H rfl rfl (by kernel_rfl) rfl) ?_
        rintro _ w ⟨rfl, H'⟩
        have H : Sep z (itB rr m clk (nxS (S.map fun p : IE => p.2.2) none) :: blk pd [.slice (some ⟨bd, 0, none⟩) (D.n * 256) (D.n * 256), .map (some m), .int .i64 f0, .int .i64 D.f1, .int .i64 D.f2, .int .i64 (if D.f3 = 0 then 0 else D.f3 - 1), .bool D.cut, .int .i64 D.left] 74 :: blk bd (bs2.map u8) 5 :: mapB m ([]) clk :: poolA hq :: seps (es.map Ent.row) :: R) w := H'
        clear H'
        refine s_end ?_
        refine k_seq ?_
        refine s_region ?_
        refine s_do rfl rfl rfl (d_move rfl rfl) ?_
        refine s_do rfl rfl rfl (d_move rfl rfl) ?_
        refine s_do rfl rfl rfl (d_nilCheck rfl rfl) ?_
        refine s_do rfl rfl rfl (d_field rfl (k := 7) (r := 7) (by kernel_rfl) rfl rfl) ?_
        refine s_do rfl rfl rfl (d_load rfl rfl (by kernel_rfl) (here (H.cel 1 rfl 7 rfl))) ?_
        refine s_do rfl rfl rfl (d_sub64 rfl rfl rfl (r := D.left - 1) (by omega) (by omega)) ?_
        refine s_do rfl rfl rfl (d_max rfl rfl rfl) ?_
        refine s_do rfl rfl rfl (d_nilCheck rfl rfl) ?_
        refine s_do rfl rfl rfl (d_field rfl (k := 7) (r := 7) (by kernel_rfl) rfl rfl) ?_
        refine s_put rfl rfl (n_store 1 H rfl rfl rfl rfl (vs := [.int .i64 (max (0 : Int) (D.left - 1))]) rfl (by simp [u8, u32, Value.oneCell']) (by kernel_rfl) (by simp) (out := [.slice (some ⟨bd, 0, none⟩) (D.n * 256) (D.n * 256), .map (some m), .int .i64 f0, .int .i64 D.f1, .int .i64 D.f2, .int .i64 (if D.f3 = 0 then 0 else D.f3 - 1), .bool D.cut, .int .i64 (max (0 : Int) (D.left - 1))]) rfl) ?_
        rintro w H'
        have H : Sep z (itB rr m clk (nxS (S.map fun p : IE => p.2.2) none) :: blk pd [.slice (some ⟨bd, 0, none⟩) (D.n * 256) (D.n * 256), .map (some m), .int .i64 f0, .int .i64 D.f1, .int .i64 D.f2, .int .i64 (if D.f3 = 0 then 0 else D.f3 - 1), .bool D.cut, .int .i64 (max (0 : Int) (D.left - 1))] 74 :: blk bd (bs2.map u8) 5 :: mapB m ([]) clk :: poolA hq :: seps (es.map Ent.row) :: R) w := H'
        clear H'
        refine s_end ?_
        refine k_seq ?_
        refine s_region ?_
        refine s_do rfl rfl rfl (d_assign rfl rfl) ?_
        refine s_end ?_
        refine k_ret ?_
        refine doneL rfl [.int .i64 0] ⟨rfl, trivial⟩ (v := .int .i64 0) rfl ?_
        have H' := H.mono 5 (B := seps (([] : List Ent).map Ent.row)) rfl (fun h q => ⟨fun _ => 0, fun i A hi => by simp at hi⟩)
        have H : Sep z (itB rr m clk (nxS (S.map fun p : IE => p.2.2) none) :: blk pd [.slice (some ⟨bd, 0, none⟩) (D.n * 256) (D.n * 256), .map (some m), .int .i64 f0, .int .i64 D.f1, .int .i64 D.f2, .int .i64 (if D.f3 = 0 then 0 else D.f3 - 1), .bool D.cut, .int .i64 (max (0 : Int) (D.left - 1))] 74 :: blk bd (bs2.map u8) 5 :: mapB m ([]) clk :: poolA hq :: seps (([] : List Ent).map Ent.row) :: R) w := H'
        clear H'
        have H' := H.pick 6 [1, 2, 3, 4, 5, 0] rfl
        have H : Sep z (blk pd [.slice (some ⟨bd, 0, none⟩) (D.n * 256) (D.n * 256), .map (some m), .int .i64 f0, .int .i64 D.f1, .int .i64 D.f2, .int .i64 (if D.f3 = 0 then 0 else D.f3 - 1), .bool D.cut, .int .i64 (max (0 : Int) (D.left - 1))] 74 :: blk bd (bs2.map u8) 5 :: mapB m ([]) clk :: poolA hq :: seps (([] : List Ent).map Ent.row) :: itB rr m clk (nxS (S.map fun p : IE => p.2.2) none) :: R) w := H'
        clear H'
        have H' := Sep.toDisk (D := D.fl) (pd := pd) (bd := bd) (m := m) (f0 := f0) (bs := bs2) (es := ([] : List Ent)) (clk := clk) (hq := hq) (Γ := itB rr m clk (nxS (S.map fun p : IE => p.2.2) none) :: R) H (cl_ok hD (fun i hi => Dsk.cont_len hD hi) hD.f1 hD.f2 (tick_in hD.f3) (by omega)) (hfin.f _ _ _ _ _)
        have H : Sep z (diskA pd D.fl :: itB rr m clk (nxS (S.map fun p : IE => p.2.2) none) :: R) w := H'
        clear H'
        exact ⟨[diskA pd D.fl], .inr ⟨by simp_all, rfl, rfl⟩, H.perm 2 [0] rfl rfl⟩

set_option maxHeartbeats 1000000 in
theorem crash_c (pd : Nat) (D : Dsk) (v : Value) (ps : List Int) (A : Asn) (hA : ∀ h, A h → rdH 1 v ps.length (ps.map (Value.int .i64)) h) (hver : ∀ i, (D.ver i).length ≤ 1000000000000) : Cn Tryz.prog 18 [.pointer (some ⟨pd, 0, none⟩), v] [diskA pd D, A] (fun v Γ => ∃ D2 : Dsk, Crashed D D2 ∧ (D2.f1 = 0 ∧ D2.f2 = 0 ∧ D2.f3 = 0 ∧ D2.cut = false ∧ D2.left = D.left) ∧ v = .tuple #[] ∧ Γ = [diskA pd D2, A]) := by
  intro z R w H'
  have H : Sep z (diskA pd D :: A :: R) w := H'
  clear H'
  obtain ⟨ap, cp, rfl⟩ := H.says 1 rfl (fun h q => (hA h q).slc)
  have hpsm := H.says 1 rfl (fun h q => (hA h q).small)
  refine enter Tryz.func18 rfl 63 Tryz.ntmps18 rfl ?_
  refine k_seq ?_
  refine k_seq ?_
  refine s_region ?_
  refine s_do rfl rfl rfl (d_move rfl rfl) ?_
  refine s_callC rfl rfl rfl rfl rfl (fun w => Tryz.call13 _ w) (dirty_c _ _) H 1 [0] rfl rfl ?_
  rintro v3 w _ ⟨ks, hks, rfl⟩ H'
  have H : Sep z (grow 3 1 v3 ks.length (ks.map (Value.int .i64)) :: diskA pd D :: A :: R) w := H'
  clear H'
  have sv3 := H.says 0 rfl (fun h q => q.slc)
  have H' := H.pick 3 [1, 0, 2] rfl
  have H : Sep z (diskA pd D :: grow 3 1 v3 ks.length (ks.map (Value.int .i64)) :: A :: R) w := H'
  clear H'
  obtain ⟨bd, m, f0, bs, es, clk, hq, hD, hIn, H'⟩ := H.disk
  clear H
  have hn1 := hD.n1; have hn2 := hD.n2; have hf1 := hD.f1; have hf2 := hD.f2; have hf3 := hD.f3; have hlf := hD.left; have hbl := hIn.len
  have H : Sep z (blk pd [.slice (some ⟨bd, 0, none⟩) (D.n * 256) (D.n * 256), .map (some m), .int .i64 f0, .int .i64 D.f1, .int .i64 D.f2, .int .i64 D.f3, .bool D.cut, .int .i64 D.left] 74 :: blk bd (bs.map u8) 5 :: mapB m (es.map Ent.ie) clk :: poolA hq :: seps (es.map Ent.row) :: grow 3 1 v3 ks.length (ks.map (Value.int .i64)) :: A :: R) w := H'
  clear H'
  have hksm := H.says 5 rfl (fun h q => q.rd.small)
  obtain ⟨ao3, c3, rfl⟩ := sv3
  have H : Sep z (blk pd [.slice (some ⟨bd, 0, none⟩) (D.n * 256) (D.n * 256), .map (some m), .int .i64 f0, .int .i64 D.f1, .int .i64 D.f2, .int .i64 D.f3, .bool D.cut, .int .i64 D.left] 74 :: blk bd (bs.map u8) 5 :: mapB m (es.map Ent.ie) clk :: poolA hq :: seps (es.map Ent.row) :: grow 3 1 (.slice ao3 ks.length c3) ks.length (ks.map (Value.int .i64)) :: A :: R) w := H
  refine s_do rfl rfl rfl (d_len rfl (z := 1) (by kernel_rfl) rfl) ?_
  refine s_do rfl rfl rfl (d_move rfl rfl) ?_
  refine s_end ?_
  refine k_block ?_
  refine c_loop (σ := Nat × List UInt8 × (Nat → List UInt8)) (fun ⟨j, bs2, f⟩ => [(12, .int .i64 (j : Int)), (0, .pointer (some ⟨pd, 0, none⟩)), (1, .slice ap ps.length cp), (10, .slice ao3 ks.length c3), (11, .int .i64 (ks.length : Int))])
    (fun ⟨j, bs2, f⟩ w => Sep z (blk pd [.slice (some ⟨bd, 0, none⟩) (D.n * 256) (D.n * 256), .map (some m), .int .i64 f0, .int .i64 D.f1, .int .i64 D.f2, .int .i64 D.f3, .bool D.cut, .int .i64 D.left] 74 :: blk bd (bs2.map u8) 5 :: mapB m (es.map Ent.ie) clk :: poolA hq :: seps (es.map Ent.row) :: grow 3 1 (.slice ao3 ks.length c3) ks.length (ks.map (Value.int .i64)) :: A :: R) w ∧ (j ≤ ks.length ∧ (∀ i, Has D i (f i)) ∧ Dsk.In { D with dur := f } bs2 es clk hq)) (fun ⟨j, bs2, f⟩ => ks.length - j) ⟨0, bs, D.dur⟩
    (fun _ hF => (hF.cons (hF.cons (hF.cons (hF.cons (hF.cons hF.nil 11 _ _ rfl rfl) 10 _ _ rfl rfl) 1 _ _ rfl rfl) 0 _ _ rfl rfl) 12 _ _ rfl (by go_num))) ⟨H, by omega, fun i => .inl rfl, hIn⟩ ?_
  clear H; rintro ⟨j, bs2, f⟩ w ⟨H', hI⟩
  dsimp only at hI H' ⊢
  have H : Sep z (blk pd [.slice (some ⟨bd, 0, none⟩) (D.n * 256) (D.n * 256), .map (some m), .int .i64 f0, .int .i64 D.f1, .int .i64 D.f2, .int .i64 D.f3, .bool D.cut, .int .i64 D.left] 74 :: blk bd (bs2.map u8) 5 :: mapB m (es.map Ent.ie) clk :: poolA hq :: seps (es.map Ent.row) :: grow 3 1 (.slice ao3 ks.length c3) ks.length (ks.map (Value.int .i64)) :: A :: R) w := H'
  clear H'
  obtain ⟨hjn, hf, hIn2⟩ := hI
  refine k_seq ?_
  refine s_region ?_
  refine s_do rfl rfl rfl (d_lss rfl rfl rfl) ?_
  refine s_end ?_
  refine k_seq ?_
  refine k_dec rfl (fun h1 => ?_) (fun h1 => ?_)
  · -- yes: (j : Int) < (ks.length : Int)
    have hjlt : j < ks.length := by omega
    refine k_skip ?_
    refine k_seq ?_
    refine k_block ?_
    refine k_seq ?_
    refine s_region ?_
    obtain ⟨x, hx⟩ : ∃ x, ks[j]? = some x := ⟨_, List.getElem?_eq_getElem (by omega)⟩
    have hxk := (hks.2 x).1 (List.mem_of_getElem? hx)
    obtain ⟨k, rfl⟩ : ∃ k : Nat, x = (k : Int) := ⟨x.toNat, by omega⟩
    have hk : k < D.n := by omega
    have hat3 := (H.rd 5 rfl (fun h q => q.rd)).at (j := j) (u := .int .i64 (k : Int)) (by simp [hx])
    obtain ⟨v0, pvs, hgv, hpl, hrow, hpool⟩ := row_of hIn2 hk
    obtain ⟨ao, cc0, rfl⟩ := H.says 4 rfl (fun h q => (hrow h q).slc)
    have hpm := H.says 4 rfl (fun h q => (hrow h q).small)
    refine s_do rfl rfl rfl (d_move rfl rfl) ?_
    refine s_do rfl rfl rfl (d_indexE rfl (z := 1) (j := j) (r := j) (by kernel_rfl) rfl rfl rfl (by omega) hat3 (by omega)) ?_
    refine s_do rfl rfl rfl (d_loadE rfl rfl (by kernel_rfl) (here hat3)) ?_
    refine s_do rfl rfl rfl (d_assign rfl rfl) ?_
    refine s_do rfl rfl rfl (d_assign rfl rfl) ?_
    refine s_end ?_
    refine k_seq ?_
    refine s_region ?_
    refine s_do rfl rfl rfl (d_move rfl rfl) ?_
    refine s_do rfl rfl rfl (d_nilCheck rfl rfl) ?_
    refine s_do rfl rfl rfl (d_field rfl (k := 1) (r := 1) (by kernel_rfl) rfl rfl) ?_
    refine s_do rfl rfl rfl (d_load rfl rfl (by kernel_rfl) (here (H.cel 0 rfl 1 rfl))) ?_
    refine s_do rfl rfl rfl (d_move rfl rfl) ?_
    refine s_do rfl rfl rfl (d_lookup (e := 90) (zv := .slice none 0 0) rfl (by kernel_rfl) (by kernel_rfl) rfl rfl (here (H.bk 2 rfl))) ?_
    refine k_updA 22 (u := (getM (es.map Ent.ie) (k : Int)).getD (.slice none 0 0)) (v := .slice ao pvs.length cc0) rfl hgv ?_
    refine s_do rfl rfl rfl (d_assign rfl rfl) ?_
    refine s_end ?_
    refine k_seq ?_
    refine k_seq ?_
    refine s_region ?_
    refine s_do rfl rfl rfl (d_move rfl rfl) ?_
    refine s_do rfl rfl rfl (d_move rfl rfl) ?_
    refine s_do rfl rfl rfl (d_len rfl (z := 1) (by kernel_rfl) rfl) ?_
    refine s_do rfl rfl rfl (d_geq rfl rfl rfl) ?_
    refine s_end ?_
    refine k_dec rfl (fun h2 => ?_) (fun h2 => ?_)
    · -- yes: (ps.length : Int) ≤ (j : Int)
      refine k_exit ?_
      refine k_out rfl ?_
      refine k_here ?_
      refine k_seq ?_
      refine s_region ?_
      refine s_do rfl rfl rfl (d_move rfl rfl) ?_
      refine s_do rfl rfl rfl (d_nilCheck rfl rfl) ?_
      refine s_do rfl rfl rfl (d_field rfl (k := 1) (r := 1) (by kernel_rfl) rfl rfl) ?_
      refine s_do rfl rfl rfl (d_load rfl rfl (by kernel_rfl) (here (H.cel 0 rfl 1 rfl))) ?_
      refine s_go0 rfl rfl (n_clear 2 (e := 90) H rfl rfl (by kernel_rfl) rfl) ?_
      rintro _ w ⟨rfl, H'⟩
      have H : Sep z (blk pd [.slice (some ⟨bd, 0, none⟩) (D.n * 256) (D.n * 256), .map (some m), .int .i64 f0, .int .i64 D.f1, .int .i64 D.f2, .int .i64 D.f3, .bool D.cut, .int .i64 D.left] 74 :: blk bd (bs2.map u8) 5 :: mapB m ([]) clk :: poolA hq :: seps (es.map Ent.row) :: grow 3 1 (.slice ao3 ks.length c3) ks.length (ks.map (Value.int .i64)) :: A :: R) w := H'
      clear H'
      refine s_end ?_
      refine k_seq ?_
      refine s_region ?_
      refine s_do rfl rfl rfl (d_move rfl rfl) ?_
      refine s_do rfl rfl rfl (d_build rfl rfl (out := [.int .i64 0, .int .i64 0, .int .i64 0, .int .i64 0]) (by kernel_rfl)) ?_
      refine s_do rfl rfl rfl (d_nilCheck rfl rfl) ?_
      refine s_do rfl rfl rfl (d_field rfl (k := 2) (r := 2) (by kernel_rfl) rfl rfl) ?_
      refine s_put rfl rfl (n_store 0 H rfl rfl rfl rfl (vs := [.int .i64 0, .int .i64 0, .int .i64 0, .int .i64 0]) rfl (by simp [u8, u32, Value.oneCell']) (by kernel_rfl) (by simp) (out := [.slice (some ⟨bd, 0, none⟩) (D.n * 256) (D.n * 256), .map (some m), .int .i64 0, .int .i64 0, .int .i64 0, .int .i64 0, .bool D.cut, .int .i64 D.left]) rfl) ?_
      rintro w H'
      have H : Sep z (blk pd [.slice (some ⟨bd, 0, none⟩) (D.n * 256) (D.n * 256), .map (some m), .int .i64 0, .int .i64 0, .int .i64 0, .int .i64 0, .bool D.cut, .int .i64 D.left] 74 :: blk bd (bs2.map u8) 5 :: mapB m ([]) clk :: poolA hq :: seps (es.map Ent.row) :: grow 3 1 (.slice ao3 ks.length c3) ks.length (ks.map (Value.int .i64)) :: A :: R) w := H'
      clear H'
      refine s_end ?_
      refine s_region ?_
      refine s_do rfl rfl rfl (d_move rfl rfl) ?_
      refine s_do rfl rfl rfl (d_nilCheck rfl rfl) ?_
      refine s_do rfl rfl rfl (d_field rfl (k := 6) (r := 6) (by kernel_rfl) rfl rfl) ?_
      refine s_put rfl rfl (n_store 0 H rfl rfl rfl rfl (vs := [.bool false]) rfl (by simp [u8, u32, Value.oneCell']) (by kernel_rfl) (by simp) (out := [.slice (some ⟨bd, 0, none⟩) (D.n * 256) (D.n * 256), .map (some m), .int .i64 0, .int .i64 0, .int .i64 0, .int .i64 0, .bool false, .int .i64 D.left]) rfl) ?_
      rintro w H'
      have H : Sep z (blk pd [.slice (some ⟨bd, 0, none⟩) (D.n * 256) (D.n * 256), .map (some m), .int .i64 0, .int .i64 0, .int .i64 0, .int .i64 0, .bool false, .int .i64 D.left] 74 :: blk bd (bs2.map u8) 5 :: mapB m ([]) clk :: poolA hq :: seps (es.map Ent.row) :: grow 3 1 (.slice ao3 ks.length c3) ks.length (ks.map (Value.int .i64)) :: A :: R) w := H'
      clear H'
      refine s_end ?_
      refine doneL rfl [] trivial (v := .tuple #[]) rfl ?_
      have H' := H.mono 4 (B := seps (([] : List Ent).map Ent.row)) rfl (fun h q => ⟨fun _ => 0, fun i A hi => by simp at hi⟩)
      have H : Sep z (blk pd [.slice (some ⟨bd, 0, none⟩) (D.n * 256) (D.n * 256), .map (some m), .int .i64 0, .int .i64 0, .int .i64 0, .int .i64 0, .bool false, .int .i64 D.left] 74 :: blk bd (bs2.map u8) 5 :: mapB m ([]) clk :: poolA hq :: seps (([] : List Ent).map Ent.row) :: grow 3 1 (.slice ao3 ks.length c3) ks.length (ks.map (Value.int .i64)) :: A :: R) w := H'
      clear H'
      have H' := Sep.toDisk (D := (⟨D.n, f, fun _ => [], 0, 0, 0, false, D.left⟩ : Dsk)) (pd := pd) (bd := bd) (m := m) (f0 := 0) (bs := bs2) (es := ([] : List Ent)) (clk := clk) (hq := hq) (Γ := grow 3 1 (.slice ao3 ks.length c3) ks.length (ks.map (Value.int .i64)) :: A :: R) H (cl_ok hD (fun i hi => (by rcases hf i with h | h; rw [h]; exact hD.dur i hi; exact hD.ver i hi _ h)) (by omega) (by omega) (by omega) hD.left) (cr_end hIn2)
      have H : Sep z (diskA pd (⟨D.n, f, fun _ => [], 0, 0, 0, false, D.left⟩ : Dsk) :: grow 3 1 (.slice ao3 ks.length c3) ks.length (ks.map (Value.int .i64)) :: A :: R) w := H'
      clear H'
      exact ⟨[diskA pd ⟨D.n, f, fun _ => [], 0, 0, 0, false, D.left⟩, A], ⟨⟨D.n, f, fun _ => [], 0, 0, 0, false, D.left⟩, ⟨rfl, fun _ => rfl, hf⟩, ⟨rfl, rfl, rfl, rfl, rfl⟩, rfl, rfl⟩, H.perm 3 [0, 2] rfl rfl⟩
    · -- no: (ps.length : Int) ≤ (j : Int)
      refine k_skip ?_
      refine k_seq ?_
      have hvl : pvs.length ≤ 1000000000000 := by have h1 := hver k; have h2 : pvs.length = (D.ver k).length := hpl; omega
      refine s_region ?_
      refine s_do rfl rfl rfl (d_move rfl rfl) ?_
      refine s_do rfl rfl rfl (d_len rfl (z := 1) (by kernel_rfl) rfl) ?_
      refine s_do rfl rfl rfl (d_add64 rfl rfl rfl (r := ((pvs.length : Nat) : Int) + 1) (by omega) (by omega)) ?_
      refine s_do rfl rfl rfl (d_assign rfl rfl) ?_
      refine s_end ?_
      refine k_seq ?_
      refine s_region ?_
      obtain ⟨y, hy⟩ : ∃ y, ps[j]? = some y := ⟨_, List.getElem?_eq_getElem (by omega)⟩
      have hatp := (H.rd 6 rfl hA).at (j := j) (u := .int .i64 y) (by simp [hy])
      have hm1 := Int.tmod_lt_of_pos y (by omega : (0 : Int) < ((pvs.length : Nat) : Int) + 1)
      have hm2 := Int.lt_tmod_of_pos y (by omega : (0 : Int) < ((pvs.length : Nat) : Int) + 1)
      have hm3 := Int.tmod_lt_of_pos (y.tmod (((pvs.length : Nat) : Int) + 1) + (((pvs.length : Nat) : Int) + 1)) (by omega : (0 : Int) < ((pvs.length : Nat) : Int) + 1)
      have hm4 := Int.tmod_nonneg (((pvs.length : Nat) : Int) + 1) (by omega : (0 : Int) ≤ y.tmod (((pvs.length : Nat) : Int) + 1) + (((pvs.length : Nat) : Int) + 1))
      obtain ⟨t, ht, htl⟩ : ∃ t : Nat, (y.tmod (((pvs.length : Nat) : Int) + 1) + (((pvs.length : Nat) : Int) + 1)).tmod (((pvs.length : Nat) : Int) + 1) = (t : Int) ∧ t < pvs.length + 1 := ⟨((y.tmod (((pvs.length : Nat) : Int) + 1) + (((pvs.length : Nat) : Int) + 1)).tmod (((pvs.length : Nat) : Int) + 1)).toNat, by omega, by omega⟩
      refine s_do rfl rfl rfl (d_move rfl rfl) ?_
      refine s_do rfl rfl rfl (d_move rfl rfl) ?_
      refine s_do rfl rfl rfl (d_indexE rfl (z := 1) (j := j) (r := j) (by kernel_rfl) rfl rfl rfl (by omega) hatp (by omega)) ?_
      refine s_do rfl rfl rfl (d_loadE rfl rfl (by kernel_rfl) (here hatp)) ?_
      refine s_do rfl rfl rfl (d_move rfl rfl) ?_
      refine s_do rfl rfl rfl (d_rem rfl rfl rfl (by omega)) ?_
      refine s_do rfl rfl rfl (d_move rfl rfl) ?_
      refine s_do rfl rfl rfl (d_add64 rfl rfl rfl (r := y.tmod (((pvs.length : Nat) : Int) + 1) + (((pvs.length : Nat) : Int) + 1)) (by omega) (by omega)) ?_
      refine s_do rfl rfl rfl (d_move rfl rfl) ?_
      refine s_do rfl rfl rfl (d_rem rfl rfl rfl (by omega)) ?_
      refine k_updA 39 (u := .int .i64 ((y.tmod (((pvs.length : Nat) : Int) + 1) + (((pvs.length : Nat) : Int) + 1)).tmod (((pvs.length : Nat) : Int) + 1))) (v := .int .i64 (t : Int)) rfl (congrArg (Value.int .i64) ht) ?_
      refine s_do rfl rfl rfl (d_assign rfl rfl) ?_
      refine s_end ?_
      refine k_seq ?_
      refine s_region ?_
      refine s_do rfl rfl rfl (d_move rfl rfl) ?_
      refine s_do rfl rfl rfl (d_gtr rfl rfl rfl) ?_
      refine s_end ?_
      refine k_dec rfl (fun h3 => ?_) (fun h3 => ?_)
      · -- yes: (0 : Int) < (t : Int)
        obtain ⟨pv, hpv⟩ : ∃ pv, pvs[t - 1]? = some pv := ⟨_, List.getElem?_eq_getElem (by omega)⟩
        obtain ⟨p, hp⟩ : ∃ p, (D.ver k)[t - 1]? = some p := ⟨_, List.getElem?_eq_getElem (by have : pvs.length = (D.ver k).length := hpl; omega)⟩
        have hp256 := hD.ver k hk p (List.mem_of_getElem? hp)
        have hat := (H.rd 4 rfl hrow).at hpv
        refine l_region (Sep z (blk pd [.slice (some ⟨bd, 0, none⟩) (D.n * 256) (D.n * 256), .map (some m), .int .i64 f0, .int .i64 D.f1, .int .i64 D.f2, .int .i64 D.f3, .bool D.cut, .int .i64 D.left] 74 :: blk bd (bs2.map u8) 5 :: mapB m (es.map Ent.ie) clk :: poolA hq :: seps (es.map Ent.row) :: grow 3 1 (.slice ao3 ks.length c3) ks.length (ks.map (Value.int .i64)) :: A :: R)) 9 rfl (by kernel_rfl) (fun w' x' _ => ?_)
        have H' := H.ext0 x'; clear x' H; revert H'; generalize w' = w; intro H'
        have H : Sep z (blk pd [.slice (some ⟨bd, 0, none⟩) (D.n * 256) (D.n * 256), .map (some m), .int .i64 f0, .int .i64 D.f1, .int .i64 D.f2, .int .i64 D.f3, .bool D.cut, .int .i64 D.left] 74 :: blk bd (bs2.map u8) 5 :: mapB m (es.map Ent.ie) clk :: poolA hq :: seps (es.map Ent.row) :: grow 3 1 (.slice ao3 ks.length c3) ks.length (ks.map (Value.int .i64)) :: A :: R) w := H'
        clear H'
        refine l_do 0 (by kernel_rfl) rfl rfl (by kernel_rfl) (by kernel_rfl) (by kernel_rfl) rfl rfl rfl (d_move rfl rfl) (H.pick 7 [0, 1, 2, 3, 4, 5, 6] rfl) ?_
        refine l_do 1 (by kernel_rfl) rfl rfl (by kernel_rfl) (by kernel_rfl) (by kernel_rfl) rfl rfl rfl (d_move rfl rfl) (H.pick 7 [0, 1, 2, 3, 4, 5, 6] rfl) ?_
        refine l_do 3 (by kernel_rfl) rfl rfl (by kernel_rfl) (by kernel_rfl) (by kernel_rfl) rfl rfl rfl (d_move rfl rfl) (H.pick 7 [0, 1, 2, 3, 4, 5, 6] rfl) ?_
        refine l_do 4 (by kernel_rfl) rfl rfl (by kernel_rfl) (by kernel_rfl) (by kernel_rfl) rfl rfl rfl (d_move rfl rfl) (H.pick 7 [0, 1, 2, 3, 4, 5, 6] rfl) ?_
        refine l_do 5 (by kernel_rfl) rfl rfl (by kernel_rfl) (by kernel_rfl) (by kernel_rfl) rfl rfl rfl (d_sub64 rfl rfl rfl (r := ((t - 1 : Nat) : Int)) (by omega) (by omega)) (H.pick 7 [0, 1, 2, 3, 4, 5, 6] rfl) ?_
        refine l_do 6 (by kernel_rfl) rfl rfl (by kernel_rfl) (by kernel_rfl) (by kernel_rfl) rfl rfl rfl (d_indexE rfl (z := 1) (j := (t - 1)) (r := (t - 1)) (by kernel_rfl) rfl rfl rfl (by omega) hat (by omega)) (H.pick 7 [0, 1, 2, 3, 4, 5, 6] rfl) ?_
        refine l_do 7 (by kernel_rfl) rfl rfl (by kernel_rfl) (by kernel_rfl) (by kernel_rfl) rfl rfl rfl (d_loadE rfl rfl (by kernel_rfl) (fun _ hx => (hx.rd 4 rfl hrow).at hpv)) (H.pick 7 [0, 1, 2, 3, 4, 5, 6] rfl) ?_
        refine l_all [2] (by kernel_rfl) (by simp) ?_
        refine all1 ?_
        refine o_callC rfl rfl rfl rfl rfl rfl (fun w => Tryz.call30 _ w) (own_c _ _ _ _ _ _ _ _ _ _ k (by omega) (by omega)) H 1 [0] rfl rfl ?_
        rintro _ w _ ⟨rfl, rfl⟩ H'
        have H : Sep z (blk pd [.slice (some ⟨bd, 0, none⟩) (D.n * 256) (D.n * 256), .map (some m), .int .i64 f0, .int .i64 D.f1, .int .i64 D.f2, .int .i64 D.f3, .bool D.cut, .int .i64 D.left] 74 :: blk bd (bs2.map u8) 5 :: mapB m (es.map Ent.ie) clk :: poolA hq :: seps (es.map Ent.row) :: grow 3 1 (.slice ao3 ks.length c3) ks.length (ks.map (Value.int .i64)) :: A :: R) w := H'
        clear H'
        refine l_and (fun _ => (H.pick 7 [0, 1, 2, 3, 4, 5, 6] rfl)) ?_
        refine l_all [8] (by kernel_rfl) (by simp) ?_
        refine all1 ?_
        refine o_go rfl rfl rfl rfl (n_copy 1 H rfl rfl (by kernel_rfl) rfl rfl (m := 256) (news := (p.map u8)) (.inl (H.rd 3 rfl (hpool _ _ _ hpv hp))) (by simp [u8, Value.oneCell']) (by have : bs2.length = D.n * 256 := hIn2.len; simp; omega) (k := 256) (by omega) (out := ((bs2.take (k * 256) ++ p ++ bs2.drop (k * 256 + 256)).map u8)) (by simp [hp256, List.take_of_length_le])) ?_
        rintro _ w ⟨rfl, H'⟩
        have H : Sep z (blk pd [.slice (some ⟨bd, 0, none⟩) (D.n * 256) (D.n * 256), .map (some m), .int .i64 f0, .int .i64 D.f1, .int .i64 D.f2, .int .i64 D.f3, .bool D.cut, .int .i64 D.left] 74 :: blk bd ((bs2.take (k * 256) ++ p ++ bs2.drop (k * 256 + 256)).map u8) 5 :: mapB m (es.map Ent.ie) clk :: poolA hq :: seps (es.map Ent.row) :: grow 3 1 (.slice ao3 ks.length c3) ks.length (ks.map (Value.int .i64)) :: A :: R) w := H'
        clear H'
        refine l_and (fun h => absurd rfl h) ?_
        refine l_done (by kernel_rfl) ?_
        refine s_region ?_
        refine s_do rfl rfl rfl (d_add64 rfl rfl rfl (r := (j : Int) + 1) (by omega) (by omega)) ?_
        refine s_do rfl rfl rfl (d_move rfl rfl) ?_
        refine s_end ?_
        intro _ hF
        refine ⟨⟨j + 1, (bs2.take (k * 256) ++ p ++ bs2.drop (k * 256 + 256)), fun i => if i = k then p else f i⟩, (hF.cons (hF.cons (hF.cons (hF.cons (hF.cons hF.nil 11 _ _ rfl rfl) 10 _ _ rfl rfl) 1 _ _ rfl rfl) 0 _ _ rfl rfl) 12 _ _ rfl (by go_num)), ⟨H, ?_⟩, ?_⟩
        · refine ⟨by omega, fun i => ?_, cr_step hIn2 hp256 hk⟩
          dsimp only; split
          · rename_i e; subst e; exact .inr (List.mem_of_getElem? hp)
          · exact hf i
        · (dsimp only; omega)
      · -- no: (0 : Int) < (t : Int)
        refine k_skip ?_
        refine s_region ?_
        refine s_do rfl rfl rfl (d_add64 rfl rfl rfl (r := (j : Int) + 1) (by omega) (by omega)) ?_
        refine s_do rfl rfl rfl (d_move rfl rfl) ?_
        refine s_end ?_
        intro _ hF
        refine ⟨⟨j + 1, bs2, f⟩, (hF.cons (hF.cons (hF.cons (hF.cons (hF.cons hF.nil 11 _ _ rfl rfl) 10 _ _ rfl rfl) 1 _ _ rfl rfl) 0 _ _ rfl rfl) 12 _ _ rfl (by go_num)), ⟨H, ?_⟩, ?_⟩
        · exact ⟨by omega, hf, hIn2⟩
        · (dsimp only; omega)
  · -- no: (j : Int) < (ks.length : Int)
    refine k_exit ?_
    refine k_here ?_
    refine k_seq ?_
    refine s_region ?_
    refine s_do rfl rfl rfl (d_move rfl rfl) ?_
    refine s_do rfl rfl rfl (d_nilCheck rfl rfl) ?_
    refine s_do rfl rfl rfl (d_field rfl (k := 1) (r := 1) (by kernel_rfl) rfl rfl) ?_
    refine s_do rfl rfl rfl (d_load rfl rfl (by kernel_rfl) (here (H.cel 0 rfl 1 rfl))) ?_
    refine s_go0 rfl rfl (n_clear 2 (e := 90) H rfl rfl (by kernel_rfl) rfl) ?_
    rintro _ w ⟨rfl, H'⟩
    have H : Sep z (blk pd [.slice (some ⟨bd, 0, none⟩) (D.n * 256) (D.n * 256), .map (some m), .int .i64 f0, .int .i64 D.f1, .int .i64 D.f2, .int .i64 D.f3, .bool D.cut, .int .i64 D.left] 74 :: blk bd (bs2.map u8) 5 :: mapB m ([]) clk :: poolA hq :: seps (es.map Ent.row) :: grow 3 1 (.slice ao3 ks.length c3) ks.length (ks.map (Value.int .i64)) :: A :: R) w := H'
    clear H'
    refine s_end ?_
    refine k_seq ?_
    refine s_region ?_
    refine s_do rfl rfl rfl (d_move rfl rfl) ?_
    refine s_do rfl rfl rfl (d_build rfl rfl (out := [.int .i64 0, .int .i64 0, .int .i64 0, .int .i64 0]) (by kernel_rfl)) ?_
    refine s_do rfl rfl rfl (d_nilCheck rfl rfl) ?_
    refine s_do rfl rfl rfl (d_field rfl (k := 2) (r := 2) (by kernel_rfl) rfl rfl) ?_
    refine s_put rfl rfl (n_store 0 H rfl rfl rfl rfl (vs := [.int .i64 0, .int .i64 0, .int .i64 0, .int .i64 0]) rfl (by simp [u8, u32, Value.oneCell']) (by kernel_rfl) (by simp) (out := [.slice (some ⟨bd, 0, none⟩) (D.n * 256) (D.n * 256), .map (some m), .int .i64 0, .int .i64 0, .int .i64 0, .int .i64 0, .bool D.cut, .int .i64 D.left]) rfl) ?_
    rintro w H'
    have H : Sep z (blk pd [.slice (some ⟨bd, 0, none⟩) (D.n * 256) (D.n * 256), .map (some m), .int .i64 0, .int .i64 0, .int .i64 0, .int .i64 0, .bool D.cut, .int .i64 D.left] 74 :: blk bd (bs2.map u8) 5 :: mapB m ([]) clk :: poolA hq :: seps (es.map Ent.row) :: grow 3 1 (.slice ao3 ks.length c3) ks.length (ks.map (Value.int .i64)) :: A :: R) w := H'
    clear H'
    refine s_end ?_
    refine s_region ?_
    refine s_do rfl rfl rfl (d_move rfl rfl) ?_
    refine s_do rfl rfl rfl (d_nilCheck rfl rfl) ?_
    refine s_do rfl rfl rfl (d_field rfl (k := 6) (r := 6) (by kernel_rfl) rfl rfl) ?_
    refine s_put rfl rfl (n_store 0 H rfl rfl rfl rfl (vs := [.bool false]) rfl (by simp [u8, u32, Value.oneCell']) (by kernel_rfl) (by simp) (out := [.slice (some ⟨bd, 0, none⟩) (D.n * 256) (D.n * 256), .map (some m), .int .i64 0, .int .i64 0, .int .i64 0, .int .i64 0, .bool false, .int .i64 D.left]) rfl) ?_
    rintro w H'
    have H : Sep z (blk pd [.slice (some ⟨bd, 0, none⟩) (D.n * 256) (D.n * 256), .map (some m), .int .i64 0, .int .i64 0, .int .i64 0, .int .i64 0, .bool false, .int .i64 D.left] 74 :: blk bd (bs2.map u8) 5 :: mapB m ([]) clk :: poolA hq :: seps (es.map Ent.row) :: grow 3 1 (.slice ao3 ks.length c3) ks.length (ks.map (Value.int .i64)) :: A :: R) w := H'
    clear H'
    refine s_end ?_
    refine doneL rfl [] trivial (v := .tuple #[]) rfl ?_
    have H' := H.mono 4 (B := seps (([] : List Ent).map Ent.row)) rfl (fun h q => ⟨fun _ => 0, fun i A hi => by simp at hi⟩)
    have H : Sep z (blk pd [.slice (some ⟨bd, 0, none⟩) (D.n * 256) (D.n * 256), .map (some m), .int .i64 0, .int .i64 0, .int .i64 0, .int .i64 0, .bool false, .int .i64 D.left] 74 :: blk bd (bs2.map u8) 5 :: mapB m ([]) clk :: poolA hq :: seps (([] : List Ent).map Ent.row) :: grow 3 1 (.slice ao3 ks.length c3) ks.length (ks.map (Value.int .i64)) :: A :: R) w := H'
    clear H'
    have H' := Sep.toDisk (D := (⟨D.n, f, fun _ => [], 0, 0, 0, false, D.left⟩ : Dsk)) (pd := pd) (bd := bd) (m := m) (f0 := 0) (bs := bs2) (es := ([] : List Ent)) (clk := clk) (hq := hq) (Γ := grow 3 1 (.slice ao3 ks.length c3) ks.length (ks.map (Value.int .i64)) :: A :: R) H (cl_ok hD (fun i hi => (by rcases hf i with h | h; rw [h]; exact hD.dur i hi; exact hD.ver i hi _ h)) (by omega) (by omega) (by omega) hD.left) (cr_end hIn2)
    have H : Sep z (diskA pd (⟨D.n, f, fun _ => [], 0, 0, 0, false, D.left⟩ : Dsk) :: grow 3 1 (.slice ao3 ks.length c3) ks.length (ks.map (Value.int .i64)) :: A :: R) w := H'
    clear H'
    exact ⟨[diskA pd ⟨D.n, f, fun _ => [], 0, 0, 0, false, D.left⟩, A], ⟨⟨D.n, f, fun _ => [], 0, 0, 0, false, D.left⟩, ⟨rfl, fun _ => rfl, hf⟩, ⟨rfl, rfl, rfl, rfl, rfl⟩, rfl, rfl⟩, H.perm 3 [0, 2] rfl rfl⟩
end Go.Proofs.YtanejicgmgpjcaaGreatDoor
