/-
  The frame of a walk as a list of slots, and one step of a region, one operation at a time. Over any program. No condition.
-/
import Derived.WalkKit
import Derived.WalkSpells
import Derived.Deep.Quiet
import Derived.KernelRfl
namespace Go.Proofs.YtanejicgmgpjcaaGreatDoor
open Go.RowKit

/-! ## The frame: which slots are known -/
def look : List (Nat × Value) → Nat → Option Value
  | [], _ => none
  | (t, v) :: l, k => bif Nat.beq t k then some v else look l k

theorem beq_ff {d t : Nat} (h : d ≠ t) : Nat.beq d t = false := by
  cases hb : Nat.beq d t with
  | false => rfl
  | true => exact absurd (Nat.eq_of_beq_eq_true hb) h

structure Fr (n : Nat) (ds : List Deferred) (L : List (Nat × Value)) (a : Act) : Prop where
  size : a.tmps.size = n
  defers : a.defers = ds
  get : ∀ t v, look L t = some v → a.tmps[t]? = some v

theorem Fr.put {n : Nat} {ds : List Deferred} {L : List (Nat × Value)} {a : Act} (h : Fr n ds L a) (d : Nat) (v : Value) (hd : Nat.blt d n = true) : Fr n ds ((d, v) :: L) (a.put (some d) v) := by
  have hd' : d < n := by simpa using hd
  refine ⟨by simp [Act.put, h.size], by simp [Act.put, h.defers], fun t u ht => ?_⟩
  simp only [look] at ht
  by_cases e : d = t
  · subst e
    have : Nat.beq d d = true := by simp
    rw [this] at ht
    simp only [cond_true, Option.some.injEq] at ht
    subst ht
    simp [Act.put, h.size, hd']
  · rw [beq_ff e] at ht
    simp only [cond_false] at ht
    simp [Act.put, Array.getElem?_setIfInBounds_ne e, h.get t u ht]

/-- only some of the slots -/
def prune (L : List (Nat × Value)) : List Nat → List (Nat × Value)
  | [] => []
  | t :: ts => match look L t with
    | some v => (t, v) :: prune L ts
    | none => prune L ts

theorem look_prune (L : List (Nat × Value)) (ts : List Nat) (t : Nat) (v : Value) (h : look (prune L ts) t = some v) : look L t = some v := by
  induction ts with
  | nil => simp [prune, look] at h
  | cons x ts ih =>
    simp only [prune] at h
    cases hx : look L x with
    | none => rw [hx] at h; exact ih h
    | some u =>
      rw [hx] at h
      simp only [look] at h
      cases hb : Nat.beq x t with
      | true => rw [hb] at h; simp at hb; subst hb; rw [hx]; simpa using h
      | false => rw [hb] at h; exact ih (by simpa using h)

theorem Fr.prune {n : Nat} {ds : List Deferred} {L : List (Nat × Value)} {a : Act} (h : Fr n ds L a) (ts : List Nat) : Fr n ds (prune L ts) a :=
  ⟨h.size, h.defers, fun t v ht => h.get t v (look_prune L ts t v ht)⟩

/-- slot by slot -/
theorem Fr.nil {n : Nat} {ds : List Deferred} {L : List (Nat × Value)} {a : Act} (h : Fr n ds L a) : Fr n ds [] a := ⟨h.size, h.defers, fun t v ht => by simp [look] at ht⟩
theorem Fr.cons {n : Nat} {ds : List Deferred} {L L' : List (Nat × Value)} {a : Act} (h : Fr n ds L a) (h' : Fr n ds L' a) (t : Nat) (v u : Value) (ht : look L t = some u) (e : u = v) : Fr n ds ((t, v) :: L') a := by
  refine ⟨h.size, h.defers, fun s x hs => ?_⟩
  simp only [look] at hs
  cases hb : Nat.beq t s with
  | true => rw [hb] at hs; simp at hb; subst hb; simp at hs; subst hs; subst e; exact h.get t u ht
  | false => rw [hb] at hs; exact h'.get s x (by simpa using hs)

/-- a slot is written anew, as an equal value -/
theorem Fr.upd {n : Nat} {ds : List Deferred} {L : List (Nat × Value)} {a : Act} (h : Fr n ds L a) (t : Nat) {v u : Value} (ht : look L t = some u) (e : u = v) : Fr n ds ((t, v) :: L) a := h.cons h t v u ht e

def ev (L : List (Nat × Value)) : Operand → Option Value
  | .tmp t => look L t
  | .const v => some v
  | .global g => some (.pointer (some ⟨g, 0, none⟩))
  | .func f => some (.func (.func f) #[] #[])

theorem Fr.ev {n : Nat} {ds : List Deferred} {L : List (Nat × Value)} {a : Act} (h : Fr n ds L a) {x : Operand} {v : Value} (hx : ev L x = some v) : a.eval x = v := by
  cases x with
  | tmp t => simp only [YtanejicgmgpjcaaGreatDoor.ev] at hx; simp [Act.eval, h.get t v hx]
  | const u => simp only [YtanejicgmgpjcaaGreatDoor.ev, Option.some.injEq] at hx; simp [Act.eval, hx]
  | global g => simp only [YtanejicgmgpjcaaGreatDoor.ev, Option.some.injEq] at hx; simp [Act.eval, hx]
  | func f => simp only [YtanejicgmgpjcaaGreatDoor.ev, Option.some.injEq] at hx; simp [Act.eval, hx]

def evs (L : List (Nat × Value)) : List Operand → Option (List Value)
  | [] => some []
  | x :: xs => match YtanejicgmgpjcaaGreatDoor.ev L x, evs L xs with
    | some v, some vs => some (v :: vs)
    | _, _ => none

theorem Fr.evs {n : Nat} {ds : List Deferred} {L : List (Nat × Value)} {a : Act} (h : Fr n ds L a) : ∀ {xs : List Operand} {vs : List Value}, evs L xs = some vs → xs.map a.eval = vs
  | [], vs, e => by simp only [YtanejicgmgpjcaaGreatDoor.evs, Option.some.injEq] at e; subst e; rfl
  | x :: xs, vs, e => by
    simp only [YtanejicgmgpjcaaGreatDoor.evs] at e
    cases h1 : YtanejicgmgpjcaaGreatDoor.ev L x with
    | none => rw [h1] at e; cases e
    | some v =>
      cases h2 : YtanejicgmgpjcaaGreatDoor.evs L xs with
      | none => rw [h1, h2] at e; cases e
      | some us =>
        rw [h1, h2] at e
        simp only [Option.some.injEq] at e
        subst e
        simp [h.ev h1, h.evs h2]

/-- The frame that a call begins with. -/
def first : Nat → List Value → List (Nat × Value)
  | _, [] => []
  | k, v :: vs => (k, v) :: first (k + 1) vs

theorem look_first : ∀ (vs : List Value) (k t : Nat) (v : Value), look (first k vs) t = some v → k ≤ t ∧ vs[t - k]? = some v
  | [], _, _, _, h => by simp [first, look] at h
  | u :: us, k, t, v, h => by
    simp only [first, look] at h
    cases hb : Nat.beq k t with
    | true => rw [hb] at h; simp at hb h; subst hb; subst h; simp
    | false =>
      rw [hb] at h
      have := look_first us (k + 1) t v (by simpa using h)
      have hb' := Nat.ne_of_beq_eq_false hb
      refine ⟨by omega, ?_⟩
      rw [show t - k = (t - (k + 1)) + 1 from by omega]
      simpa using this.2

theorem Fr.start (args : List Value) (n : Nat) (h : args.length ≤ n) : Fr n [] (first 0 args) { tmps := args.toArray ++ Array.replicate (n - args.toArray.size) undef, defers := [] } := by
  refine ⟨by simp; omega, rfl, fun t v ht => ?_⟩
  have := (look_first args 0 t v ht).2
  simp only [Nat.sub_zero] at this
  have hlt : t < args.length := by
    rcases Nat.lt_or_ge t args.length with h | h
    · exact h
    · rw [List.getElem?_eq_none h] at this; cases this
  rw [Array.getElem?_append_left (by simpa using hlt)]
  simpa using this

/-! ## Control -/
/-- What a piece of code may leave: it goes on (N), leaves a block (X), returns (R). -/
def Qp (N : Act → World → Prop) (X : Nat → Act → World → Prop) (R : Act → World → Prop) : Exit → Act → World → Prop
  | .normal, a, w => N a w
  | .exit id, a, w => X id a w
  | .ret, a, w => R a w
  | _, _, _ => False

def noX : Nat → Act → World → Prop := fun _ _ _ => False
def upd (X : Nat → Act → World → Prop) (id : Nat) (N : Act → World → Prop) : Nat → Act → World → Prop := fun j a w => if j = id then N a w else X j a w

section
variable {P : Program} {N R : Act → World → Prop} {X : Nat → Act → World → Prop} {a : Act} {w : World}

theorem c_mono {c : Code} {N' R' : Act → World → Prop} {X' : Nat → Act → World → Prop} (h : c.wp P (Qp N X R) a w) (hN : ∀ a w, N a w → N' a w) (hX : ∀ i a w, X i a w → X' i a w) (hR : ∀ a w, R a w → R' a w) : c.wp P (Qp N' X' R') a w :=
  wp_mono h fun e a w q => by cases e <;> first | exact hN _ _ q | exact hX _ _ _ q | exact hR _ _ q | exact q

theorem c_seq {x y : Code} (h : x.wp P (Qp (fun a w => y.wp P (Qp N X R) a w) X R) a w) : (Code.seq x y).wp P (Qp N X R) a w :=
  wp_seq (wp_mono h fun e a w q => by cases e <;> exact q)

/-- with what holds between the two -/
theorem c_cut {x y : Code} (M : Act → World → Prop) (h : x.wp P (Qp M X R) a w) (h' : ∀ a w, M a w → y.wp P (Qp N X R) a w) : (Code.seq x y).wp P (Qp N X R) a w :=
  c_seq (c_mono h h' (fun _ _ _ q => q) (fun _ _ q => q))

theorem c_skip (h : N a w) : Code.skip.wp P (Qp N X R) a w := wp_skip h
theorem c_exit {id : Nat} (h : X id a w) : (Code.exit id).wp P (Qp N X R) a w := wp_exit h
theorem c_ret (h : R a w) : Code.ret.wp P (Qp N X R) a w := wp_ret h
theorem c_block {id : Nat} {c : Code} (h : c.wp P (Qp N (upd X id N) R) a w) : (Code.block id c).wp P (Qp N X R) a w :=
  wp_block (wp_mono h fun e a w q => by
    cases e <;> exact q)
theorem x_here {id : Nat} (h : N a w) : upd X id N id a w := by simp only [upd, if_true]; exact h
theorem x_out {id j : Nat} {M : Act → World → Prop} (hj : Nat.beq j id = false) (h : X j a w) : upd X id M j a w := by
  have : j ≠ id := Nat.ne_of_beq_eq_false hj
  simp only [upd, if_neg this]; exact h

theorem c_true {n : Nat} {ds : List Deferred} {L : List (Nat × Value)} (hF : Fr n ds L a) {c : Operand} {x y : Code} (hc : ev L c = some (.bool true)) (h : x.wp P (Qp N X R) a w) : (Code.cond c x y).wp P (Qp N X R) a w := wp_cond_true (hF.ev hc) h
theorem c_false {n : Nat} {ds : List Deferred} {L : List (Nat × Value)} (hF : Fr n ds L a) {c : Operand} {x y : Code} (hc : ev L c = some (.bool false)) (h : y.wp P (Qp N X R) a w) : (Code.cond c x y).wp P (Qp N X R) a w := wp_cond_false (hF.ev hc) h
/-- a test on a Bool -/
theorem c_cond {n : Nat} {ds : List Deferred} {L : List (Nat × Value)} (hF : Fr n ds L a) {c : Operand} {x y : Code} {b : Bool} (hc : ev L c = some (.bool b)) (ht : b = true → x.wp P (Qp N X R) a w) (hf : b = false → y.wp P (Qp N X R) a w) : (Code.cond c x y).wp P (Qp N X R) a w := by
  cases b with
  | true => exact c_true hF hc (ht rfl)
  | false => exact c_false hF hc (hf rfl)
/-- a test on a proposition -/
theorem c_dec {n : Nat} {ds : List Deferred} {L : List (Nat × Value)} (hF : Fr n ds L a) {c : Operand} {x y : Code} {p : Prop} [hp : Decidable p] (hc : ev L c = some (.bool (decide p))) (ht : p → x.wp P (Qp N X R) a w) (hf : ¬ p → y.wp P (Qp N X R) a w) : (Code.cond c x y).wp P (Qp N X R) a w :=
  c_cond hF hc (fun h => ht (of_decide_eq_true h)) (fun h => hf (of_decide_eq_false h))

/-! The same from every frame that shows L. -/
section framed
variable {n : Nat} {ds : List Deferred} {L : List (Nat × Value)}
theorem k_seq {x y : Code} (h : ∀ a, Fr n ds L a → x.wp P (Qp (fun a w => y.wp P (Qp N X R) a w) X R) a w) : ∀ a, Fr n ds L a → (Code.seq x y).wp P (Qp N X R) a w := fun a hF => c_seq (h a hF)
theorem k_cut {x y : Code} (M : Act → World → Prop) (h : ∀ a, Fr n ds L a → x.wp P (Qp M X R) a w) (h' : ∀ a w, M a w → y.wp P (Qp N X R) a w) : ∀ a, Fr n ds L a → (Code.seq x y).wp P (Qp N X R) a w := fun a hF => c_cut M (h a hF) h'
theorem k_meet {c : Code} (M : Act → World → Prop) (h : ∀ a, Fr n ds L a → c.wp P (Qp M X R) a w) (h' : ∀ a w, M a w → N a w) : ∀ a, Fr n ds L a → c.wp P (Qp N X R) a w := fun a hF => c_mono (h a hF) h' (fun _ _ _ q => q) (fun _ _ q => q)
theorem k_skip (h : ∀ a, Fr n ds L a → N a w) : ∀ a, Fr n ds L a → Code.skip.wp P (Qp N X R) a w := fun a hF => c_skip (h a hF)
theorem k_exit {id : Nat} (h : ∀ a, Fr n ds L a → X id a w) : ∀ a, Fr n ds L a → (Code.exit id).wp P (Qp N X R) a w := fun a hF => c_exit (h a hF)
theorem k_ret (h : ∀ a, Fr n ds L a → R a w) : ∀ a, Fr n ds L a → Code.ret.wp P (Qp N X R) a w := fun a hF => c_ret (h a hF)
theorem k_block {id : Nat} {c : Code} (h : ∀ a, Fr n ds L a → c.wp P (Qp N (upd X id N) R) a w) : ∀ a, Fr n ds L a → (Code.block id c).wp P (Qp N X R) a w := fun a hF => c_block (h a hF)
theorem k_here {id : Nat} (h : ∀ a, Fr n ds L a → N a w) : ∀ a, Fr n ds L a → upd X id N id a w := fun a hF => x_here (h a hF)
theorem k_out {id j : Nat} {M : Act → World → Prop} (hj : Nat.beq j id = false) (h : ∀ a, Fr n ds L a → X j a w) : ∀ a, Fr n ds L a → upd X id M j a w := fun a hF => x_out hj (h a hF)
theorem k_true {c : Operand} {x y : Code} (hc : ev L c = some (.bool true)) (h : ∀ a, Fr n ds L a → x.wp P (Qp N X R) a w) : ∀ a, Fr n ds L a → (Code.cond c x y).wp P (Qp N X R) a w := fun a hF => c_true hF hc (h a hF)
theorem k_false {c : Operand} {x y : Code} (hc : ev L c = some (.bool false)) (h : ∀ a, Fr n ds L a → y.wp P (Qp N X R) a w) : ∀ a, Fr n ds L a → (Code.cond c x y).wp P (Qp N X R) a w := fun a hF => c_false hF hc (h a hF)
theorem k_cond {c : Operand} {x y : Code} {b : Bool} (hc : ev L c = some (.bool b)) (ht : b = true → ∀ a, Fr n ds L a → x.wp P (Qp N X R) a w) (hf : b = false → ∀ a, Fr n ds L a → y.wp P (Qp N X R) a w) : ∀ a, Fr n ds L a → (Code.cond c x y).wp P (Qp N X R) a w :=
  fun a hF => c_cond hF hc (fun h => ht h a hF) (fun h => hf h a hF)
theorem k_dec {c : Operand} {x y : Code} {p : Prop} [hp : Decidable p] (hc : ev L c = some (.bool (decide p))) (ht : p → ∀ a, Fr n ds L a → x.wp P (Qp N X R) a w) (hf : ¬ p → ∀ a, Fr n ds L a → y.wp P (Qp N X R) a w) : ∀ a, Fr n ds L a → (Code.cond c x y).wp P (Qp N X R) a w :=
  fun a hF => c_dec hF hc (fun h => ht h a hF) (fun h => hf h a hF)
/-- a slot is known as an equal value -/
theorem k_upd {K : Act → World → Prop} (t : Nat) {v u : Value} (ht : look L t = some u) (e : u = v) (h : ∀ a, Fr n ds ((t, v) :: L) a → K a w) : ∀ a, Fr n ds L a → K a w := fun a hF => h a (hF.upd t ht e)
/-- only these slots -/
theorem k_keep {K : Act → World → Prop} (ts : List Nat) {L' : List (Nat × Value)} (e : prune L ts = L') (h : ∀ a, Fr n ds L' a → K a w) : ∀ a, Fr n ds L a → K a w := fun a hF => h a (e ▸ hF.prune ts)
end framed

/-- A loop: s: the state of a round (what the letters of the invariant stand for); Lv: the slots; G: the world; m: the measure. -/
theorem c_loop {n : Nat} {ds : List Deferred} {L : List (Nat × Value)} {c : Code} {σ : Type} (Lv : σ → List (Nat × Value)) (G : σ → World → Prop) (m : σ → Nat) (s₀ : σ)
    (h₀ : ∀ a, Fr n ds L a → Fr n ds (Lv s₀) a) (g₀ : G s₀ w)
    (round : ∀ s w, G s w → ∀ a, Fr n ds (Lv s) a → c.wp P (Qp (fun a' w' => ∃ s', Fr n ds (Lv s') a' ∧ G s' w' ∧ m s' < m s) X R) a w) : ∀ a, Fr n ds L a → (Code.loop c).wp P (Qp N X R) a w := by
  intro a hF b k cs
  have key : ∀ n' s a w, m s = n' → Fr n ds (Lv s) a → G s w →
      ∃ e a' w', Qp N X R e a' w' ∧ Arrives P (lone (b.at a (.code c :: .inLoop c :: k)) cs w) b k cs e a' w' := by
    intro n'
    induction n' using Nat.strongRecOn with
    | _ n' ih =>
      intro s a w hn hI hG
      obtain ⟨e, a₁, w₁, hq, harr⟩ := round s w hG a hI b (.inLoop c :: k) cs
      cases e with
      | normal =>
        obtain ⟨s₁, hI₁, hG₁, hlt⟩ := hq
        obtain ⟨e₂, a₂, w₂, hq₂, harr₂⟩ := ih (m s₁) (hn ▸ hlt) s₁ a₁ w₁ rfl hI₁ hG₁
        exact ⟨e₂, a₂, w₂, hq₂, .of_steps (Steps.trans harr (.one step_inLoop)) harr₂⟩
      | exit id => exact ⟨.exit id, a₁, w₁, hq, .pass (x := .inLoop c) rfl (fun _ _ => .inl (by simp)) harr⟩
      | ret => exact ⟨.ret, a₁, w₁, hq, .pass (x := .inLoop c) rfl (fun _ _ => .inl (by simp)) harr⟩
      | goto l => exact hq.elim
      | panic ch => exact hq.elim
      | outgrown => exact hq.elim
  obtain ⟨e, a', w', hq, harr⟩ := key _ s₀ a w rfl (h₀ a hF) g₀
  exact ⟨e, a', w', hq, .of_steps (.one step_loop) harr⟩
end

theorem c_next {n : Nat} {ds : List Deferred} {L : List (Nat × Value)} {σ : Type} {Lv : σ → List (Nat × Value)} {G : σ → World → Prop} {m : σ → Nat} {s : σ} {w : World} (s' : σ) (h : ∀ a, Fr n ds L a → Fr n ds (Lv s') a) (g : G s' w) (lt : m s' < m s) : ∀ a, Fr n ds L a → ∃ s', Fr n ds (Lv s') a ∧ G s' w ∧ m s' < m s :=
  fun a hF => ⟨s', h a hF, g, lt⟩

/-! ## A function's end -/
/-- The call returns a value of which R holds. -/
def Ret (R : Value → World → Prop) : Ending → World → Prop
  | .returned v, w => R v w
  | _, _ => False

theorem Ret.mono {P : Program} {f : FuncId} {args : Array Value} {w : World} {R R' : Value → World → Prop} (h : Calls P f args w (Ret R)) (hr : ∀ v w', R v w' → R' v w') : Calls P f args w (Ret R') :=
  Calls.mono h fun e w' q => by cases e <;> first | exact hr _ _ q | exact q

/-- What holds where the function's body is left. -/
def Done (P : Program) (fn : Func) (R : Value → World → Prop) (a : Act) (w : World) : Prop :=
  a.defers = [] ∧ ∃ v, (results fn a.tmps).run P w = .ok v w ∧ R v w

theorem enter {P : Program} {f : FuncId} {fn : Func} {c : Code} {args : List Value} {w : World} {R : Value → World → Prop} (hf : P.funcs[f]? = some fn) (hb : fn.body = some c) (n : Nat) (hn : fn.ntmps = n) (hlen : Nat.ble args.length n = true)
    (h : ∀ a, Fr n [] (first 0 args) a → c.wp P (Qp (Done P fn R) noX (Done P fn R)) a w) : Calls P f args.toArray w (Ret R) := by
  refine calls_of_wp hf hb (wp_mono (h _ (by rw [hn]; exact Fr.start args n (by simpa using hlen))) fun e a w q => ?_)
  cases e with
  | normal => obtain ⟨hd, v, hr, hR⟩ := q; exact ⟨hd, v, hr, hR⟩
  | ret => obtain ⟨hd, v, hr, hR⟩ := q; exact ⟨hd, v, hr, hR⟩
  | exit id => exact q.elim
  | goto l => exact q.elim
  | panic ch => exact q.elim
  | outgrown => exact q.elim

/-- what the result variables hold -/
def Res1 (P : Program) (L : List (Nat × Value)) (w : World) : ResultVar → Value → Prop
  | .tmp t, v => look L t = some v
  | .cell t ty, v => ∃ b p, look L t = some (.pointer (some ⟨b, p, none⟩)) ∧ (loadVar ty ⟨b, p, none⟩).run P w = .ok v w
def ResAll (P : Program) (L : List (Nat × Value)) (w : World) : List ResultVar → List Value → Prop
  | [], [] => True
  | r :: rs, v :: vs => Res1 P L w r v ∧ ResAll P L w rs vs
  | _, _ => False
theorem run_resAll {P : Program} {n : Nat} {ds : List Deferred} {L : List (Nat × Value)} {a : Act} {w : World} (hF : Fr n ds L a) : ∀ (rs : List ResultVar) (vs : List Value), ResAll P L w rs vs →
    (rs.mapM (fun x => match x with
      | ResultVar.tmp t => (Pure.pure (a.tmps.getD t undef) : Sem Value)
      | ResultVar.cell p t => do loadVar t (← asAddr (a.tmps.getD p undef)))).run P w = .ok vs w
  | [], [], _ => by simp [go_sem]
  | [], _ :: _, h => h.elim
  | _ :: _, [], h => h.elim
  | r :: rs, v :: vs, h => by
    have ih := run_resAll hF rs vs h.2
    have h1 := h.1
    cases r with
    | tmp t =>
      simp only [Res1] at h1
      simp only [List.mapM_cons, Sem.run_bind, Sem.run_pure, Result.andThen_ok, ih]
      simp [Array.getD, hF.get t v h1]
      have := hF.get t v h1
      rw [Array.getElem?_eq_some_iff] at this
      obtain ⟨hlt, he⟩ := this
      simp [hlt, he]
    | cell t ty =>
      obtain ⟨b, p, hl, hr⟩ := h1
      have hg := hF.get t _ hl
      have e : a.tmps.getD t undef = .pointer (some ⟨b, p, none⟩) := by simp [hg]
      have ha : (asAddr (a.tmps.getD t undef)).run P w = .ok ⟨b, p, none⟩ w := by rw [e]; rfl
      simp only [List.mapM_cons, Sem.run_bind, Sem.run_pure, Result.andThen_ok, ha, hr, ih]
def oneOf : List Value → Value
  | [v] => v
  | vs => .tuple vs.toArray
theorem run_results {P : Program} {fn : Func} {n : Nat} {ds : List Deferred} {L : List (Nat × Value)} {a : Act} {w : World} (hF : Fr n ds L a) {rs : List ResultVar} (hr : fn.results = rs.toArray) {vs : List Value} (hv : ResAll P L w rs vs) : (results fn a.tmps).run P w = .ok (oneOf vs) w := by
  have h1 := run_resAll hF rs vs hv
  have h2 : (List.toArray <$> (rs.mapM (fun x => match x with
      | ResultVar.tmp t => (Pure.pure (a.tmps.getD t undef) : Sem Value)
      | ResultVar.cell p t => do loadVar t (← asAddr (a.tmps.getD p undef))))).run P w = .ok vs.toArray w := by
    show (Sem.bind _ _).run P w = _
    have := Sem.run_bind (P := P) (w := w) (rs.mapM (fun x => match x with
      | ResultVar.tmp t => (Pure.pure (a.tmps.getD t undef) : Sem Value)
      | ResultVar.cell p t => do loadVar t (← asAddr (a.tmps.getD p undef)))) (fun x => (Pure.pure x.toArray : Sem (Array Value)))
    refine this.trans ?_
    rw [h1]
    rfl
  unfold results
  rw [hr, List.mapM_toArray, Sem.run_bind]
  erw [h2]
  simp only [Result.andThen_ok, Sem.run_pure]
  cases vs with
  | nil => rfl
  | cons x xs => cases xs with
    | nil => rfl
    | cons y ys => simp [oneOf]
theorem doneL {P : Program} {fn : Func} {R : Value → World → Prop} {n : Nat} {L : List (Nat × Value)} {w : World} {rs : List ResultVar} (hr : fn.results = rs.toArray) (vs : List Value) (hv : ResAll P L w rs vs) {v : Value} (he : oneOf vs = v) (h : R v w) : ∀ a, Fr n [] L a → Done P fn R a w := fun a hF =>
  ⟨hF.defers, v, by rw [← he]; exact run_results hF hr hv, h⟩
theorem done0 {P : Program} {fn : Func} {R : Value → World → Prop} {n : Nat} {L : List (Nat × Value)} {a : Act} {w : World} (hF : Fr n [] L a) (hr : fn.results = #[]) (h : R (.tuple #[]) w) : Done P fn R a w :=
  ⟨hF.defers, _, by simp [results, hr, go_sem], h⟩
theorem done1 {P : Program} {fn : Func} {R : Value → World → Prop} {n : Nat} {L : List (Nat × Value)} {a : Act} {w : World} (hF : Fr n [] L a) {t : Nat} (hr : fn.results = #[.tmp t]) {v : Value} (ht : look L t = some v) (h : R v w) : Done P fn R a w :=
  ⟨hF.defers, _, by simp [results, hr, go_sem, hF.get t v ht], h⟩
theorem done2 {P : Program} {fn : Func} {R : Value → World → Prop} {n : Nat} {L : List (Nat × Value)} {a : Act} {w : World} (hF : Fr n [] L a) {t u : Nat} (hr : fn.results = #[.tmp t, .tmp u]) {v x : Value} (ht : look L t = some v) (hu : look L u = some x) (h : R (.tuple #[v, x]) w) : Done P fn R a w :=
  ⟨hF.defers, _, by simp [results, hr, go_sem, hF.get t v ht, hF.get u x hu], h⟩
end Go.Proofs.YtanejicgmgpjcaaGreatDoor
