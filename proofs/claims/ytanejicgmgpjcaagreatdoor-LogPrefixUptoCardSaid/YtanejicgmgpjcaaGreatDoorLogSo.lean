/-
  slices.Sort at ints: the kit's contract at this program, and over memory in parts. No condition.
-/
import Derived.Test.YtanejicgmgpjcaaGreatDoorCoreX
import Derived.Test.YtanejicgmgpjcaaGreatDoorProg
import Derived.Shelf.Sort.Plain
import Derived.Shelf.Slices.In.SortNone
set_option maxRecDepth 100000
namespace Go.Proofs.YtanejicgmgpjcaaGreatDoor
open Go.RowKit Go.Shelf
def laysSort_ren : Go.Shelf.Ren := ⟨fun | 189 => 41 | 125 => 54 | 257 => 53 | 128 => 71 | 129 => 72 | 294 => 62 | 295 => 63 | 296 => 64 | 297 => 65 | 298 => 66 | 299 => 67 | 216 => 68 | 300 => 69 | 301 => 70 | 328 => 76 | 329 => 77 | 330 => 78 | 331 => 79 | 332 => 80 | 215 => 81 | 343 => 93 | n => n, fun | 28 => 34 | 3 => 3 | 46 => 126 | 0 => 0 | 51 => 58 | 53 => 147 | 4 => 4 | 183 => 139 | 182 => 138 | 131 => 143 | 5 => 5 | 9 => 9 | 218 => 151 | 222 => 155 | 228 => 168 | 229 => 45 | n => n, fun | n => n⟩
theorem laysSort : Go.Proofs.Lays.n189 Tryz.prog laysSort_ren := {
  mixed := by kernel_rfl,
  f125 := Tryz.func54.trans (congrArg some (by kernel_rfl)),
  f128 := Tryz.func71.trans (congrArg some (by kernel_rfl)),
  f129 := Tryz.func72.trans (congrArg some (by kernel_rfl)),
  f189 := Tryz.func41.trans (congrArg some (by kernel_rfl)),
  f215 := Tryz.func81.trans (congrArg some (by kernel_rfl)),
  f216 := Tryz.func68.trans (congrArg some (by kernel_rfl)),
  f257 := Tryz.func53.trans (congrArg some (by kernel_rfl)),
  f294 := Tryz.func62.trans (congrArg some (by kernel_rfl)),
  f295 := Tryz.func63.trans (congrArg some (by kernel_rfl)),
  f296 := Tryz.func64.trans (congrArg some (by kernel_rfl)),
  f297 := Tryz.func65.trans (congrArg some (by kernel_rfl)),
  f298 := Tryz.func66.trans (congrArg some (by kernel_rfl)),
  f299 := Tryz.func67.trans (congrArg some (by kernel_rfl)),
  f300 := Tryz.func69.trans (congrArg some (by kernel_rfl)),
  f301 := Tryz.func70.trans (congrArg some (by kernel_rfl)),
  f328 := Tryz.func76.trans (congrArg some (by kernel_rfl)),
  f329 := Tryz.func77.trans (congrArg some (by kernel_rfl)),
  f330 := Tryz.func78.trans (congrArg some (by kernel_rfl)),
  f331 := Tryz.func79.trans (congrArg some (by kernel_rfl)),
  f332 := Tryz.func80.trans (congrArg some (by kernel_rfl)),
  f343 := Tryz.func93.trans (congrArg some (by kernel_rfl)),
  t0 := Tryz.underlying0,
  a0 := Tryz.isAgg0,
  z0 := Tryz.sizeOf0,
  v0 := Tryz.zeroValue0,
  t3 := Tryz.underlying3,
  a3 := Tryz.isAgg3,
  z3 := Tryz.sizeOf3,
  v3 := Tryz.zeroValue3,
  t4 := Tryz.underlying4,
  a4 := Tryz.isAgg4,
  z4 := Tryz.sizeOf4,
  v4 := Tryz.zeroValue4,
  t5 := Tryz.underlying5,
  a5 := Tryz.isAgg5,
  z5 := Tryz.sizeOf5,
  v5 := Tryz.zeroValue5,
  t9 := Tryz.underlying9,
  a9 := Tryz.isAgg9,
  z9 := Tryz.sizeOf9,
  v9 := Tryz.zeroValue9,
  t28 := Tryz.underlying34,
  a28 := Tryz.isAgg34,
  z28 := Tryz.sizeOf34,
  v28 := Tryz.zeroValue34,
  t46 := Tryz.underlying126,
  a46 := Tryz.isAgg126,
  z46 := Tryz.sizeOf126,
  v46 := Tryz.zeroValue126,
  t51 := Tryz.underlying58,
  a51 := Tryz.isAgg58,
  z51 := Tryz.sizeOf58,
  v51 := Tryz.zeroValue58,
  t53 := Tryz.underlying147,
  a53 := Tryz.isAgg147,
  z53 := Tryz.sizeOf147,
  v53 := Tryz.zeroValue147,
  t131 := Tryz.underlying143,
  a131 := Tryz.isAgg143,
  z131 := Tryz.sizeOf143,
  v131 := Tryz.zeroValue143,
  t182 := Tryz.underlying138,
  a182 := Tryz.isAgg138,
  z182 := Tryz.sizeOf138,
  v182 := Tryz.zeroValue138,
  t183 := Tryz.underlying139,
  a183 := Tryz.isAgg139,
  z183 := Tryz.sizeOf139,
  v183 := Tryz.zeroValue139,
  t218 := Tryz.underlying151,
  a218 := Tryz.isAgg151,
  z218 := Tryz.sizeOf151,
  v218 := Tryz.zeroValue151,
  t222 := Tryz.underlying155,
  a222 := Tryz.isAgg155,
  z222 := Tryz.sizeOf155,
  v222 := Tryz.zeroValue155,
  t228 := Tryz.underlying168,
  a228 := Tryz.isAgg168,
  z228 := Tryz.sizeOf168,
  v228 := Tryz.zeroValue168,
  t229 := Tryz.underlying45,
  a229 := Tryz.isAgg45,
  z229 := Tryz.sizeOf45,
  v229 := Tryz.zeroValue45 }
open Go.Sort in
theorem sort_sep {z w : World} {R : List Asn} {b n : Nat} {cs : List Value} {ty : TypeId} (H : Sep z (blk b cs ty :: R) w) (ys : List Int) (os : Array Obj) :
    Sep z (blk b ((putCells (Value.int .i64) 0 ys.toArray cs.toArray).toList) ty :: R) (Go.Sort.grow (putRow (Value.int .i64) (Go.Sort.ahead w n) b 0 ys.toArray) os) := by
  have hb : w.heap[b]? = some (.cells cs.toArray ty (0, 0)) := H.blk 0 rfl
  have hlt : b < w.heap.size := (Array.getElem?_eq_some_iff.1 hb).1
  have h1 : Sep z (blk b ((putCells (Value.int .i64) 0 ys.toArray cs.toArray).toList) ty :: R) (putRow (Value.int .i64) (Go.Sort.ahead w n) b 0 ys.toArray) := by
    refine H.write 0 rfl rfl rfl rfl (o' := .cells (putCells (Value.int .i64) 0 ys.toArray cs.toArray) ty (0, 0)) ?_ ?_
    · show (w.heap.modify b _)[b]? = _
      rw [Array.getElem?_modify, if_pos rfl, hb]; rfl
    · intro k hk
      show (w.heap.modify b _)[k]? = _
      rw [Array.getElem?_modify, if_neg (Ne.symm hk)]
  refine h1.ext0 ⟨rfl, rfl, rfl, ?_, fun k hk _ => ?_⟩
  · show _ ≤ (_ ++ os : Array Obj).size
    simp
  · show (_ ++ os : Array Obj)[k]? = _
    rw [Array.getElem?_append_left hk]
theorem sort_c (v : Value) (zs : List Int) (hl : zs.length ≤ 1099511627776) : Cn Tryz.prog 41 [v] [grow 3 1 v zs.length (zs.map (Value.int .i64))]
    (fun u Γ => u = .tuple #[] ∧ ∃ ys : List Int, ys = zs.mergeSort (fun x y => decide (x ≤ y)) ∧ Γ = [grow 3 1 v ys.length (ys.map (Value.int .i64))]) := by
  intro z R w H
  have H : Sep z (grow 3 1 v zs.length (zs.map (Value.int .i64)) :: R) w := H
  rcases H.says 0 rfl (fun h q => q.form) with ⟨rfl, h0⟩ | ⟨b, c, rfl, hc⟩
  · obtain rfl : zs = [] := List.length_eq_zero_iff.1 h0
    refine (Go.Proofs.Any.slices_Sort_int_none laysSort none 0 w).mono ?_
    rintro e w' ⟨rfl, rfl⟩
    exact ⟨_, ⟨rfl, [], by simp, rfl⟩, H⟩
  · obtain ⟨⟨cap, cur⟩, ⟨hv, h1, h2, h3, h4⟩, H1⟩ := H.into (σ := Nat × List Value) (p := fun x => c = x.1 ∧ zs.length ≤ x.1 ∧ x.1 ≤ maxLen ∧ x.2.length = x.1 ∧ x.2.take zs.length = zs.map (Value.int .i64)) (As := fun x => [blk b x.2 3]) (fun h q => by
      rcases q.2 with ⟨q, _⟩ | ⟨g, cap, cur, hv, hg, hc, hm, hs, ht⟩
      · cases q
      · simp only [Value.slice.injEq, Option.some.injEq, Addr.mk.injEq, and_true, true_and] at hv
        obtain ⟨rfl, rfl⟩ := hv
        refine ⟨(c, cur.toList), ⟨rfl, hc, hm, by simpa using hs, by simpa using ht⟩, fun _ => 0, fun i A hi => ?_⟩
        cases i with
        | zero => simp at hi; subst hi; show Hp.part _ _ _ _ = _; unfold Hp.part; rw [if_pos rfl]; simpa using hg
        | succ i => simp at hi)
    dsimp only at hv h1 h2 h3 h4 H1
    subst hv
    have H1 : Sep z (blk b cur 3 :: R) w := H1
    have hb : w.heap[b]? = some (.cells cur.toArray 3 (0, 0)) := H1.blk 0 rfl
    have hlt : b < w.heap.size := (Array.getElem?_eq_some_iff.1 hb).1
    have hcur : ∀ j, j < zs.length → cur[j]? = some (.int .i64 zs[j]!) := fun j hj => by
      have : (cur.take zs.length)[j]? = (zs.map (Value.int .i64))[j]? := by rw [h4]
      rw [List.getElem?_take, if_pos hj, List.getElem?_map, List.getElem?_eq_getElem hj] at this
      rw [this, getElem!_pos zs j hj]; rfl
    have hH : Go.Sort.Holds (Value.int .i64) w b 0 zs.toArray := fun j hj => by
      have hj' : j < zs.length := by simpa using hj
      refine ⟨?_, ?_⟩
      · have := hcur j hj'
        simp [World.cell?, hb, this]
      · simp [World.frozen?, hb]
    refine (Go.Proofs.Any.slices_Sort_int laysSort b 0 c zs w hH hlt (by omega)).mono ?_
    rintro e w' ⟨rfl, n, os, rfl⟩
    have H2 := sort_sep (n := n) H1 (zs.mergeSort fun x y => decide (x ≤ y)) os
    have hml : (zs.mergeSort fun x y => decide (x ≤ y)).length = zs.length := List.length_mergeSort _
    refine ⟨_, ⟨rfl, _, rfl, rfl⟩, H2.mono 0 rfl (fun h q => ?_)⟩
    rw [hml]
    refine blk.grow q h1 (by unfold maxLen at h2; omega) ?_ ?_
    · simp [Go.Sort.putCells, h3]
    · apply List.ext_getElem?
      intro j
      rw [List.getElem?_take]
      simp only [Nat.mul_one]
      by_cases hj : j < zs.length
      · rw [if_pos hj]
        have hjc : j < cur.length := by omega
        have hjm : j < (zs.mergeSort fun x y => decide (x ≤ y)).length := by omega
        simp [Go.Sort.putCells, hjc, hjm, hj]
      · rw [if_neg hj, List.getElem?_eq_none (by simp; omega)]
end Go.Proofs.YtanejicgmgpjcaaGreatDoor
