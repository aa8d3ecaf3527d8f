/-
  Ranges over a map whose keys are ints, over memory in parts; iterators that hand out in whatever order; clear. Over any program. No condition.
-/
import Derived.Test.YtanejicgmgpjcaaGreatDoorCoreW
import Derived.Test.YtanejicgmgpjcaaGreatDoorCoreR
import Derived.Laws.IdiomRangeMap
namespace Go.Proofs.YtanejicgmgpjcaaGreatDoor
open Go.RowKit

/-- the iterator of a map: the stamps that were handed out -/
def itB (r m clk : Nat) (seen : List Nat) : Asn := bk r (.mapIter (some m) clk seen.toArray clk)
/-- what has not been handed out -/
def leftL (l : List IE) (seen : List Nat) : List IE := l.filter fun p => !seen.contains p.2.2
theorem leftL_mem {l : List IE} {seen : List Nat} {p : IE} (h : p ∈ leftL l seen) : p ∈ l ∧ p.2.2 ∉ seen := by
  simpa [leftL] using h
theorem leftL_arr (l : List IE) (seen : List Nat) : (l.map toE).toArray.filter (fun e => !seen.toArray.contains e.born) = ((leftL l seen).map toE).toArray := by
  simp [leftL, List.filter_map, Function.comp_def]; rfl
theorem leftL_less {l : List IE} {seen : List Nat} {p : IE} (h : p ∈ leftL l seen) : (leftL l (seen ++ [p.2.2])).length < (leftL l seen).length := by
  obtain ⟨h1, h2⟩ := leftL_mem h
  unfold leftL
  refine filter_lt _ _ (fun x hx => ?_) p ?_ ?_ l h1
  · simp only [List.contains_eq_mem, List.mem_append, Bool.not_eq_true', decide_eq_false_iff_not, not_or] at hx ⊢; exact hx.1
  · simpa using h2
  · simp
/-- what a step answers -/
def nxV : Option IE → Value
  | none => .tuple #[.bool false]
  | some p => .tuple #[.bool true, .int .i64 p.1, p.2.1]
def nxS (seen : List Nat) : Option IE → List Nat
  | none => seen
  | some p => seen ++ [p.2.2]
def nxP (l : List IE) (seen : List Nat) : Option IE → Prop
  | none => leftL l seen = []
  | some p => p ∈ leftL l seen

section
variable {P : Program} {C : World → Prop} {o : Oper} {w z : World} {Γ : List Asn} {n : Nat} {ds : List Deferred} {L : List (Nat × Value)} {x y : Operand}
theorem run_next_in {r m clk : Nat} {seen : List Nat} {l : List IE} (hr : w.heap[r]? = some (.mapIter (some m) clk seen.toArray clk)) (hm : w.heap[m]? = some (.map (l.map toE).toArray clk)) (hold : ∀ p ∈ l, p.2.2 < clk) (ty : TypeId) :
    ∃ q : Option IE, nxP l seen q ∧ ∃ w1 : World, (w1 = w ∨ w1 = w.drew) ∧ (Instr.next (.pointer (some ⟨r, 0, none⟩)) false ty).run P w = .ok (nxV q) { w1 with heap := w1.heap.setIfInBounds r (.mapIter (some m) clk (nxS seen q).toArray clk) } := by
  have hlt : r < w.heap.size := (Array.getElem?_eq_some_iff.1 hr).1
  have hE : ∀ x ∈ (l.map toE).toArray.toList, x.born < clk := fun x hx => by
    simp only [List.mem_map] at hx
    obtain ⟨p, hp, rfl⟩ := hx
    exact hold p hp
  simp only [Instr.next, getObj, Sem.run_bind, Sem.run, hr, hm, Result.andThen, next_test_false seen.toArray _ clk clk hE (Nat.le_refl _), Bool.false_eq_true, if_false]
  rw [leftL_arr]
  have hmem : ∀ p ∈ leftL l seen, p.2.2 < clk := fun p hp => hold p (leftL_mem hp).1
  generalize hG : leftL l seen = G at hmem
  have e1 : ((G.map toE).toArray).filter (fun x => decide (x.born < clk)) = (G.map toE).toArray := Array.filter_eq_self.2 (fun x hx => by
    simp only [List.mem_toArray, List.mem_map] at hx
    obtain ⟨p, hp, rfl⟩ := hx
    exact decide_eq_true (hmem p hp))
  have e2 : ((G.map toE).toArray).filter (fun x => decide (x.born ≥ clk)) = #[] := by
    rw [Array.filter_eq_empty_iff]
    intro x hx
    simp only [List.mem_toArray, List.mem_map] at hx
    obtain ⟨p, hp, rfl⟩ := hx
    have := hmem p hp
    simp [toE]; omega
  simp only [e1, e2, Array.append_empty]
  have same : ∀ u : World, u.heap = w.heap → ({ u with heap := u.heap.setIfInBounds r (.mapIter (some m) clk seen.toArray clk) } : World) = u := fun u hu => by
    have : u.heap.setIfInBounds r (.mapIter (some m) clk seen.toArray clk) = u.heap := by
      rw [hu]; apply Array.ext_getElem?; intro k
      rw [Array.getElem?_setIfInBounds]
      split
      · rename_i e; subst e; exact hr.symm
      · rfl
    rw [this]
  cases G with
  | nil =>
    refine ⟨none, hG, w, .inl rfl, ?_⟩
    show _ = Result.ok _ ({ w with heap := w.heap.setIfInBounds r (.mapIter (some m) clk seen.toArray clk) } : World)
    rw [same w rfl]
    simp [choose, Sem.run, Question.forced, nxV]
  | cons p0 G =>
    have hne : ((((p0 :: G).map toE).toArray).isEmpty) = false := by simp [Array.isEmpty]
    simp only [hne, Bool.false_eq_true, if_false, Array.empty_append, Array.size_map]
    generalize hK : (p0 :: G) = K at hG
    have hKl : 0 < K.length := by rw [← hK]; simp
    have hch : ∃ (j : Nat) (w1 : World), j < K.length ∧ (w1 = w ∨ w1 = w.drew) ∧ (choose (Question.mapNext ((K.map toE).toArray).size)).run P w = .ok j w1 := by
      by_cases hf : ((K.map toE).toArray).size ≤ 1
      · exact ⟨0, w, by omega, .inl rfl, by simp only [choose, Sem.run, Question.forced, hf, decide_true, if_true]⟩
      · rw [List.size_toArray, List.length_map] at hf ⊢
        exact ⟨(Question.mapNext K.length).cut (w.tape w.drawn (Question.mapNext K.length)), w.drew, Nat.mod_lt _ hKl, .inr rfl, by
          simp only [choose, Sem.run, Question.forced, decide_eq_true_eq, hf, if_false, Bool.false_eq_true]; rfl⟩
    obtain ⟨j, w1, hj, hal, hrun⟩ := hch
    have hw1 : w1.heap = w.heap := by rcases hal with rfl | rfl <;> rfl
    refine ⟨some K[j], by show K[j] ∈ leftL l seen; rw [hG]; exact List.getElem_mem hj, w1, hal, ?_⟩
    have hset : ∀ o' : Obj, (setObj r o').run P w1 = .ok () { w1 with heap := w1.heap.setIfInBounds r o' } := fun o' => by
      simp [setObj, Sem.run, hw1, hr]
    have hjg : ((K.map toE).toArray)[j]? = some (toE K[j]) := by simp [hj]
    simp only [hrun, Array.getElem?_map, hjg, Option.map_some, Sem.run_bind, hset, Result.andThen]
    simp [nxV, nxS, toE, Sem.run]

theorem n_range (j : Nat) {t e : TypeId} {m clk : Nat} {l : List IE} (H : Sep z Γ w) (hj : Γ[j]? = some (mapB m l clk)) (ho : o.op = .range t x) (ht : mapInt P t = some e) (hx : ev L x = some (.map (some m))) :
    GoesL P n ds L o w (fun v w' => ∃ r, v = .pointer (some ⟨r, 0, none⟩) ∧ Sep z (itB r m clk [] :: Γ) w') := fun a hF => by
  obtain ⟨kt, ik, h1, h2⟩ := mapInt_ok ht
  refine ⟨_, _, ?_, w.heap.size, rfl, H.new (ext_push w (.mapIter (some m) clk #[] clk)) (Nat.le_refl _) (by show (w.heap.push _)[w.heap.size]? = _; simp)⟩
  simp only [execOp, ho, hF.ev hx, Sem.run_bind, run_range_map w t kt e m _ clk h1 (H.bk j hj), Result.andThen_ok, Sem.run_pure]
  rfl
theorem n_next (i j : Nat) {r m clk : Nat} {l : List IE} {seen : List Nat} (H : Sep z Γ w) (hi : Γ[i]? = some (itB r m clk seen)) (hj : Γ[j]? = some (mapB m l clk)) (ho : o.op = .next x false) (hx : ev L x = some (.pointer (some ⟨r, 0, none⟩))) (hold : ∀ p ∈ l, p.2.2 < clk) :
    GoesL P n ds L o w (fun v w' => ∃ q : Option IE, v = nxV q ∧ nxP l seen q ∧ Sep z (Γ.set i (itB r m clk (nxS seen q))) w') := fun a hF => by
  have hr := H.bk i hi
  obtain ⟨q, hq, w1, hw1, hrun⟩ := run_next_in (P := P) hr (H.bk j hj) hold o.type
  have hlt : r < w.heap.size := (Array.getElem?_eq_some_iff.1 hr).1
  have hw : w1.heap = w.heap ∧ w1.os = w.os ∧ w1.tape = w.tape ∧ w1.output = w.output := by rcases hw1 with rfl | rfl <;> exact ⟨rfl, rfl, rfl, rfl⟩
  refine ⟨_, { w1 with heap := w1.heap.setIfInBounds r (.mapIter (some m) clk (nxS seen q).toArray clk) }, ?_, q, rfl, hq, H.write i hi hw.2.1 hw.2.2.1 hw.2.2.2 (o' := .mapIter (some m) clk (nxS seen q).toArray clk) (by show (w1.heap.setIfInBounds r _)[r]? = _; rw [hw.1]; simp [hlt]) (fun k hk => by show (w1.heap.setIfInBounds r _)[k]? = _; rw [hw.1]; rw [Array.getElem?_setIfInBounds_ne (Ne.symm hk)])⟩
  simp only [execOp, ho, hF.ev hx, Sem.run_bind, hrun, Result.andThen_ok, Sem.run_pure]
theorem d_nx0 {q : Option IE} (ho : o.op = .extract x 0) (hx : ev L x = some (nxV q)) : DoesL P C n ds L o (.bool q.isSome) := by
  cases q with
  | none => exact d_extract ho hx rfl
  | some p => exact d_extract ho hx rfl
theorem d_entry {r m clk : Nat} {l : List IE} {seen : List Nat} {p : IE} (ho : o.op = .entry x) (hx : ev L x = some (.pointer (some ⟨r, 0, none⟩))) (hc : ∀ w, C w → w.heap[r]? = some (.mapIter (some m) clk (seen ++ [p.2.2]).toArray clk) ∧ w.heap[m]? = some (.map (l.map toE).toArray clk)) (hp : p ∈ l) (hn : (l.map (·.2.2)).Nodup) :
    DoesL P C n ds L o (.tuple #[.int .i64 p.1, p.2.1]) := fun a hF w hw => by
  obtain ⟨hr, hm⟩ := hc w hw
  have hf : ((l.map toE).toArray).find? (fun x => x.born == p.2.2) = some (toE p) := by
    rw [← Array.find?_toList]
    exact find_born (toE p) _ (by simpa [Function.comp_def, toE] using hn) (List.mem_map_of_mem hp)
  simp only [execOp, ho, hF.ev hx, Instr.entry, getObj, Sem.run_bind, Sem.run, hr, hm, Result.andThen, ← List.push_toArray, Array.back?_push, bne_self_eq_false, Bool.false_eq_true, if_false, hf]
  rfl
theorem n_clear (i : Nat) {t e : TypeId} {m clk : Nat} {l : List IE} (H : Sep z Γ w) (hi : Γ[i]? = some (mapB m l clk)) (ho : o.op = .call { callee := .builtin .clear, args := #[x], argTypes := #[t] }) (ht : mapInt P t = some e) (hx : ev L x = some (.map (some m))) :
    GoesL P n ds L o w (fun v w' => v = .tuple #[] ∧ Sep z (Γ.set i (mapB m [] clk)) w') := fun a hF => by
  obtain ⟨kt, ik, h1, h2⟩ := mapInt_ok ht
  have hmb : w.heap[m]? = some (.map (l.map toE).toArray clk) := H.bk i hi
  have hlt : m < w.heap.size := (Array.getElem?_eq_some_iff.1 hmb).1
  have main : (Builtin.clear_ #[t] o.type #[.map (some m)]).run P w = .ok (.tuple #[]) { w with heap := w.heap.setIfInBounds m (.map #[] clk) } := by
    simp [Builtin.clear_, run_underlying h1, getObj, setObj, Sem.run, hmb]
  refine ⟨_, { w with heap := w.heap.setIfInBounds m (.map #[] clk) }, ?_, rfl, H.write i hi rfl rfl rfl (by show (w.heap.setIfInBounds m (.map #[] clk))[m]? = _; simp [hlt]) (fun q hq => by show (w.heap.setIfInBounds m _)[q]? = _; rw [Array.getElem?_setIfInBounds_ne (Ne.symm hq)])⟩
  simp only [execOp, ho, resolve, invoke, builtin, Sem.run_bind, Sem.run_pure, Result.andThen_ok, List.map_toArray, List.map_cons, List.map_nil, hF.ev hx, main]
end

/-- The function gf (with what it has captured) calls yield, from s0 on: stp: what may be handed out next; fin: where it may end; pre: its own parts, which it leaves as they are. -/
def ItG (P : Program) (gf : FuncId) (lb : List Value) (pre : List Asn) {σ : Type} (stp : σ → Value → σ → Prop) (s0 : σ) (fin : σ → Prop) : Prop :=
  ∀ (z : World) (l : Nat) (J : σ → List Asn), (∀ s v s' F, stp s v s' → ∀ w, Sep z (pre ++ (F ++ J s)) w → YieldAt (FX none) 0 P l #[v] w (fun e w' => e = .returned (.bool true) ∧ Sep z (pre ++ (F ++ J s')) w')) →
    ∀ w, Sep z (pre ++ J s0) w → CallsIn (FX none) 0 P gf (#[Value.func (.yield l) #[] #[]] ++ lb.toArray) w (fun e w' => (∃ v, e = .returned v) ∧ ∃ s, fin s ∧ Sep z (pre ++ J s) w')
/-- 'for t := range g { body }' where no round leaves -/
theorem k_rangeG {P : Program} {N R : Act → World → Prop} {X : Nat → Act → World → Prop} {z w : World} {n : Nat} {ds : List Deferred} {L : List (Nat × Value)} {g : Operand} {t : Nat} {assign body : Code} {gf : FuncId} {lb : List Value} {pre : List Asn} {σ : Type} {stp : σ → Value → σ → Prop} {s0 : σ} {fin : σ → Prop}
    (J : σ → List Asn) (hg : ev L g = some (.func (.func gf) #[] lb.toArray)) (eg : ∀ args w, (callFunc gf args).run P w = .ok (.enter gf args) w) (ht : Nat.blt t n = true) (hit : ItG P gf lb pre stp s0 fin) (H : Sep z (J s0 ++ pre) w)
    (hround : ∀ (ro : Option Nat) (i : σ) (v : Value) (i' : σ), stp i v i' → ∀ w a, Fr n [] ((t, v) :: L) a →
      RW P ro assign (Qp (fun a1 w1 => w1 = w ∧ ∀ (F : List Asn) (w : World), Sep z (J i ++ F) w → RW P ro body (Qp (fun _ w3 => Sep z (J i' ++ F) w3) noX (fun _ _ => False)) a1 w) noX (fun _ _ => False)) a w)
    (K : ∀ D w' s, fin s → Sep z (YtanejicgmgpjcaaGreatDoor.bk D (.deferred (some [])) :: (J s ++ pre)) w' → ∀ a, Fr n (mark D :: ds) L a → N a w') :
    ∀ a, Fr n ds L a → (Code.rangeFunc g #[t] assign body).wp P (Qp N X R) a w := by
  intro a hF
  refine (wpIn_wide (n := 0)).1 ?_
  refine wpIn_rangeFunc ?_
  intro fn _
  have hro : Fence.wide.round = none := rfl
  rw [hro]
  obtain ⟨W1, hW1⟩ : ∃ W1, (w.alloc (.deferred (some []))).alloc (loopRec .ready fn a.tmps t assign body w.heap.size) = W1 := ⟨_, rfl⟩
  obtain ⟨D, hD⟩ : ∃ D, D = w.heap.size := ⟨_, rfl⟩
  obtain ⟨T, hT⟩ : ∃ T : List Asn, T = [YtanejicgmgpjcaaGreatDoor.bk D (.deferred (some [])), YtanejicgmgpjcaaGreatDoor.bk (D + 1) (loopRec .ready fn a.tmps t assign body D)] := ⟨_, rfl⟩
  have H1 : Sep z (pre ++ (T ++ J s0)) W1 := by
    have h1 := H.new (b := w.heap.size) (o := .deferred (some [])) (ext_push w (.deferred (some []))) (Nat.le_refl _) (by show (w.heap.push _)[w.heap.size]? = _; simp)
    have h2 := h1.new (b := w.heap.size + 1) (o := loopRec .ready fn a.tmps t assign body w.heap.size) (ext_push _ (loopRec .ready fn a.tmps t assign body w.heap.size)) (by simp) (by
      show ((w.heap.push _).push _)[w.heap.size + 1]? = _
      rw [Array.getElem?_push, if_pos (by simp)])
    have h3 : Sep z (YtanejicgmgpjcaaGreatDoor.bk (w.heap.size + 1) (loopRec .ready fn a.tmps t assign body w.heap.size) :: YtanejicgmgpjcaaGreatDoor.bk w.heap.size (.deferred (some [])) :: (J s0 ++ pre)) W1 := hW1 ▸ h2
    have h4 := (h3.pick 2 [1, 0] rfl)
    have h5 : Sep z (T ++ (J s0 ++ pre)) W1 := by rw [hT, hD]; exact h4
    exact (Sep.swap (As := T ++ J s0) (Bs := pre) (by rw [List.append_assoc]; exact h5))
  refine ⟨w.heap.size + 1, [mark w.heap.size], W1, { target := .fn (.func gf) lb.toArray, args := #[.func (.yield (w.heap.size + 1)) #[] #[]] }, W1, gf, #[.func (.yield (w.heap.size + 1)) #[] #[]] ++ lb.toArray, W1, ?_, ?_, fun _ _ => trivial, ?_, fun q => (by cases q), ?_⟩
  · rw [← hW1]; exact run_enterLoop_outer _ _ _ _ _
  · simp only [resolve, hF.ev hg]
    simp [go_sem]
  · simp [invoke, go_sem, eg]
  · rw [← hD] at hW1 ⊢
    have back : ∀ {G : List Asn} {i : σ} {w : World}, Sep z (G ++ (T ++ J i)) w → Sep z (YtanejicgmgpjcaaGreatDoor.bk D (.deferred (some [])) :: YtanejicgmgpjcaaGreatDoor.bk (D + 1) (loopRec .ready fn a.tmps t assign body D) :: (J i ++ G)) w := fun h => by
      have := h.swap
      rw [List.append_assoc, hT] at this
      exact this
    have forth : ∀ (G : List Asn) (i : σ) (w : World), Sep z (YtanejicgmgpjcaaGreatDoor.bk D (.deferred (some [])) :: YtanejicgmgpjcaaGreatDoor.bk (D + 1) (loopRec .ready fn a.tmps t assign body D) :: (J i ++ G)) w → Sep z (G ++ (T ++ J i)) w := fun G i w h => by
      have h' : Sep z (T ++ (J i ++ G)) w := by rw [hT]; exact h
      exact (Sep.swap (As := T ++ J i) (Bs := G) (by rw [List.append_assoc]; exact h'))
    have key := hit z (D + 1) (fun i => T ++ J i) ?_ W1 H1
    · refine CallsIn.mono (show CallsIn Fence.wide 0 P gf _ W1 _ from key) ?_
      rintro e w2 ⟨⟨v, rfl⟩, s, hs, H2⟩
      have H2 := back H2
      refine ⟨none, _, run_endLoop (H2.bk 1 rfl) (by simp), ?_⟩
      refine K D _ s hs ?_ _ ⟨hF.size, by show [mark D] ++ a.defers = _; rw [hF.defers]; rfl, hF.get⟩
      have H3 := H2.setObj 1 (.loop { state := .exhausted, pending := none, fn, tmps := a.tmps, params := #[t], assign, body, defers := D }) rfl
      exact H3.pick 2 [0] rfl
    · intro i u i' F hu w2 H2
      rw [← List.append_assoc] at H2
      have H2 := back H2
      have hy := run_yield (P := P) (args := [u].toArray) (H2.bk 1 rfl) (by simp)
      refine ⟨fn, _, assign, body, hy, ?_⟩
      refine roundIn_of_wpIn (F := FX none) trivial ?_
      have hFr : Fr n [] ((t, u) :: L) { tmps := (((#[t] : Array Tmp).zip [u].toArray).foldl (fun tmps (x : Tmp × Value) => tmps.setIfInBounds x.1 x.2) a.tmps), defers := [] } := by
        have h0 : Fr n [] L { tmps := a.tmps, defers := [] } := ⟨hF.size, rfl, hF.get⟩
        have := h0.put t u ht
        simpa [Act.put] using this
      have hr := hround (some (D + 1)) i u i' hu w2 _ hFr
      refine wpIn_mono (show assign.wpIn ((FX none).inRound (D + 1)) 0 P _ _ w2 from hr) ?_
      intro e a1 w1 q
      cases e with
      | normal =>
        obtain ⟨rfl, hbody⟩ := q
        refine ⟨_, run_beginRound (H2.bk 1 rfl) rfl, ?_⟩
        have H3 := H2.setObj 1 (loopRec .busy fn a.tmps t assign body D) rfl
        have H4 : Sep z ([YtanejicgmgpjcaaGreatDoor.bk D (.deferred (some [])), YtanejicgmgpjcaaGreatDoor.bk (D + 1) (loopRec .busy fn a.tmps t assign body D)] ++ (J i ++ (pre ++ F))) _ := H3
        have H5 := H4.swap
        rw [List.append_assoc] at H5
        refine wpIn_mono (show body.wpIn ((FX none).inRound (D + 1)) 0 P _ _ _ from hbody _ _ H5) ?_
        intro e a3 w3 q3
        cases e with
        | normal =>
          have H6 : Sep z (J i' ++ ((pre ++ F) ++ [YtanejicgmgpjcaaGreatDoor.bk D (.deferred (some [])), YtanejicgmgpjcaaGreatDoor.bk (D + 1) (loopRec .busy fn a.tmps t assign body D)])) w3 := q3
          rw [← List.append_assoc] at H6
          have H7 : Sep z (YtanejicgmgpjcaaGreatDoor.bk D (.deferred (some [])) :: YtanejicgmgpjcaaGreatDoor.bk (D + 1) (loopRec .busy fn a.tmps t assign body D) :: (J i' ++ (pre ++ F))) w3 := H6.swap
          refine ⟨_, _, run_endRound none (H7.bk 1 rfl), rfl, ?_⟩
          rw [← List.append_assoc]; refine forth _ _ _ ?_
          exact H7.setObj 1 (loopRec .ready fn a.tmps t assign body D) rfl
        | exit id => exact q3.elim
        | ret => exact q3.elim
        | goto l => exact q3.elim
        | panic ch => exact q3.elim
        | outgrown => exact q3.elim
      | exit id => exact q.elim
      | ret => exact q.elim
      | goto l => exact q.elim
      | panic ch => exact q.elim
      | outgrown => exact q.elim

end Go.Proofs.YtanejicgmgpjcaaGreatDoor
