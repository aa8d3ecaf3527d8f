/-
  Memory in parts: each part is told by what it holds; a call names the parts that it touches, all others stay. Over any program. No condition.
-/
import Derived.Test.YtanejicgmgpjcaaGreatDoorCoreD
namespace Go.Proofs.YtanejicgmgpjcaaGreatDoor
open Go.RowKit

/-- some blocks of a heap -/
abbrev Hp := Nat → Option Obj
/-- what is said of some blocks -/
abbrev Asn := Hp → Prop
def Hp.part (h : Hp) (own : Nat → Nat) (i : Nat) : Hp := fun k => if own k = i then h k else none
/-- the blocks are shared out among these -/
def seps (Γ : List Asn) : Asn := fun h => ∃ own : Nat → Nat, ∀ (i : Nat) (A : Asn), Γ[i]? = some A → A (h.part own i)
def hp (w : World) : Hp := fun k => w.heap[k]?
structure Sep (z : World) (Γ : List Asn) (w : World) : Prop where
  os : w.os = z.os
  tape : w.tape = z.tape
  output : w.output = z.output
  own : seps Γ (hp w)

/-- one block -/
def bk (b : Nat) (o : Obj) : Asn := fun h => h b = some o
def blk (b : Nat) (cs : List Value) (ty : TypeId) : Asn := bk b (.cells cs.toArray ty (0, 0))
/-- the blocks that a world began with -/
def base (z : World) : Asn := fun h => ∀ k, k < z.heap.size → h k = z.heap[k]?
def emp : Asn := fun _ => True

theorem part_eq {h h' : Hp} {own own' : Nat → Nat} {i j : Nat} (e : ∀ k, own k = i ↔ own' k = j) (e' : ∀ k, own k = i → h k = h' k) : h.part own i = h'.part own' j := by
  funext k
  unfold Hp.part
  by_cases q : own k = i
  · rw [if_pos q, if_pos ((e k).1 q), e' k q]
  · rw [if_neg q, if_neg (fun q' => q ((e k).2 q'))]
theorem part_some {h : Hp} {own : Nat → Nat} {i k : Nat} {o : Obj} (e : h.part own i k = some o) : own k = i ∧ h k = some o := by
  unfold Hp.part at e
  split at e
  · exact ⟨by assumption, e⟩
  · cases e

/-! ### Which parts, in which order -/
def pos : List Nat → Nat → Option Nat
  | [], _ => none
  | x :: xs, y => if y = x then some 0 else (pos xs y).map (· + 1)
theorem pos_some : ∀ (is : List Nat) (y j : Nat), pos is y = some j → is[j]? = some y
  | [], _, _, h => by simp [pos] at h
  | x :: xs, y, j, h => by
    unfold pos at h
    split at h
    · rename_i e; simp at h; subst h; simp [e]
    · cases hp : pos xs y with
      | none => rw [hp] at h; cases h
      | some q => rw [hp] at h; simp at h; subst h; simpa using pos_some xs y q hp
theorem pos_lt (is : List Nat) (y j : Nat) (h : pos is y = some j) : j < is.length := (List.getElem?_eq_some_iff.1 (pos_some is y j h)).1
def okIs (n : Nat) (is : List Nat) : Bool := (List.range is.length).all fun j => match is[j]? with
  | some y => Nat.blt y n && (match pos is y with | some q => Nat.beq q j | none => false)
  | none => false
theorem okIs_spec {n : Nat} {is : List Nat} (h : okIs n is = true) (j y : Nat) (e : is[j]? = some y) : y < n ∧ pos is y = some j := by
  unfold okIs at h
  rw [List.all_eq_true] at h
  have := h j (by have := (List.getElem?_eq_some_iff.1 e).1; simpa using this)
  rw [e] at this
  simp only [Bool.and_eq_true] at this
  obtain ⟨h1, h2⟩ := this
  refine ⟨by simpa using h1, ?_⟩
  cases hq : pos is y with
  | none => rw [hq] at h2; cases h2
  | some q => rw [hq] at h2; simp at h2; rw [h2]
def picks (Γ : List Asn) : List Nat → List Asn
  | [] => []
  | i :: is => (match Γ[i]? with | some A => A | none => emp) :: picks Γ is
theorem picks_get (Γ : List Asn) : ∀ (is : List Nat) (j : Nat) (A : Asn), (picks Γ is)[j]? = some A → ∃ i, is[j]? = some i ∧ (Γ[i]? = some A ∨ A = emp)
  | [], _, _, h => by simp [picks] at h
  | i :: is, 0, A, h => by
    simp only [picks, List.getElem?_cons_zero, Option.some.injEq] at h
    refine ⟨i, rfl, ?_⟩
    cases hi : Γ[i]? with
    | none => rw [hi] at h; exact .inr h.symm
    | some B => rw [hi] at h; exact .inl (congrArg some h)
  | i :: is, j + 1, A, h => by
    simp only [picks, List.getElem?_cons_succ] at h
    obtain ⟨q, hq, hA⟩ := picks_get Γ is j A h
    exact ⟨q, by simpa using hq, hA⟩
theorem picks_len (Γ : List Asn) : ∀ is : List Nat, (picks Γ is).length = is.length
  | [] => rfl
  | _ :: is => by simp [picks, picks_len Γ is]

theorem seps_pick {Γ : List Asn} {h : Hp} (hs : seps Γ h) (n : Nat) (is : List Nat) (hok : okIs n is = true) : seps (picks Γ is ++ Γ.drop n) h := by
  obtain ⟨own, hown⟩ := hs
  refine ⟨fun k => if own k < n then (match pos is (own k) with | some j => j | none => is.length + Γ.length) else is.length + (own k - n), fun j A hA => ?_⟩
  rcases Nat.lt_or_ge j is.length with hj | hj
  · rw [List.getElem?_append_left (by rw [picks_len]; exact hj)] at hA
    obtain ⟨i, hi, hA⟩ := picks_get Γ is j A hA
    obtain ⟨hin, hpi⟩ := okIs_spec hok j i hi
    rcases hA with hA | rfl
    · have := hown i A hA
      rw [part_eq (h' := h) (own' := fun k => if own k < n then (match pos is (own k) with | some j => j | none => is.length + Γ.length) else is.length + (own k - n)) (j := j) (fun k => ?_) (fun _ _ => rfl)] at this
      · exact this
      · constructor
        · intro e; subst e; simp [hin, hpi]
        · intro e
          split at e
          · cases hp : pos is (own k) with
            | none => rw [hp] at e; simp at e; omega
            | some q => rw [hp] at e; simp at e; subst e; have := pos_some _ _ _ hp; rw [hi] at this; simpa using this.symm
          · omega
    · trivial
  · rw [List.getElem?_append_right (by rw [picks_len]; exact hj), picks_len, List.getElem?_drop] at hA
    have := hown _ A hA
    have hlen := (List.getElem?_eq_some_iff.1 hA).1
    rw [part_eq (h' := h) (own' := fun k => if own k < n then (match pos is (own k) with | some j => j | none => is.length + Γ.length) else is.length + (own k - n)) (j := j) (fun k => ?_) (fun _ _ => rfl)] at this
    · exact this
    · constructor
      · intro e; rw [if_neg (by omega)]; omega
      · intro e
        split at e
        · cases hp : pos is (own k) with
          | none => rw [hp] at e; simp at e; omega
          | some q => rw [hp] at e; simp at e; have := pos_lt _ _ _ hp; omega
        · omega

/-- a part that is made of parts -/
theorem seps_open {As Γ : List Asn} {h : Hp} (hs : seps (seps As :: Γ) h) : seps (As ++ Γ) h := by
  obtain ⟨own, hown⟩ := hs
  obtain ⟨ownA, hA⟩ := hown 0 _ rfl
  refine ⟨fun k => if own k = 0 then (if ownA k < As.length then ownA k else As.length + Γ.length) else As.length + (own k - 1), fun j A hj => ?_⟩
  rcases Nat.lt_or_ge j As.length with hl | hl
  · rw [List.getElem?_append_left hl] at hj
    have := hA j A hj
    have e : (h.part own 0).part ownA j = h.part (fun k => if own k = 0 then (if ownA k < As.length then ownA k else As.length + Γ.length) else As.length + (own k - 1)) j := by
      funext k
      unfold Hp.part
      dsimp only
      by_cases q : own k = 0
      · by_cases q' : ownA k = j
        · simp [q, q', hl]
        · have : ¬ (if ownA k < As.length then ownA k else As.length + Γ.length) = j := by split <;> omega
          simp [q, q', this]
      · have : ¬ As.length + (own k - 1) = j := by omega
        simp [q, this]
    rwa [e] at this
  · rw [List.getElem?_append_right hl] at hj
    have hjl := (List.getElem?_eq_some_iff.1 hj).1
    have := hown (j - As.length + 1) A (by simpa using hj)
    rw [part_eq (h' := h) (own' := fun k => if own k = 0 then (if ownA k < As.length then ownA k else As.length + Γ.length) else As.length + (own k - 1)) (j := j) (fun k => ?_) (fun _ _ => rfl)] at this
    · exact this
    · constructor
      · intro e; rw [if_neg (by omega)]; omega
      · intro e
        split at e
        · split at e <;> omega
        · omega
theorem seps_shut {As Γ : List Asn} {h : Hp} (hs : seps (As ++ Γ) h) : seps (seps As :: Γ) h := by
  obtain ⟨own, hown⟩ := hs
  refine ⟨fun k => if own k < As.length then 0 else own k - As.length + 1, fun j A hj => ?_⟩
  cases j with
  | zero =>
    simp only [List.getElem?_cons_zero, Option.some.injEq] at hj
    subst hj
    refine ⟨own, fun i A hi => ?_⟩
    have hil := (List.getElem?_eq_some_iff.1 hi).1
    have := hown i A (by rw [List.getElem?_append_left hil]; exact hi)
    have e : h.part own i = (h.part (fun k => if own k < As.length then 0 else own k - As.length + 1) 0).part own i := by
      funext k
      unfold Hp.part
      dsimp only
      by_cases q : own k = i
      · simp [q, hil]
      · simp [q]
    rwa [e] at this
  | succ j =>
    simp only [List.getElem?_cons_succ] at hj
    have := hown (As.length + j) A (by rw [List.getElem?_append_right (by omega)]; simpa using hj)
    rw [part_eq (h' := h) (own' := fun k => if own k < As.length then 0 else own k - As.length + 1) (j := j + 1) (fun k => ?_) (fun _ _ => rfl)] at this
    · exact this
    · constructor
      · intro e; rw [if_neg (by omega)]; omega
      · intro e; split at e <;> omega
theorem seps_swap {As Bs : List Asn} {h : Hp} (hs : seps (As ++ Bs) h) : seps (Bs ++ As) h := by
  obtain ⟨own, hown⟩ := hs
  refine ⟨fun k => if own k < As.length then own k + Bs.length else if own k < As.length + Bs.length then own k - As.length else own k, fun j A hj => ?_⟩
  rcases Nat.lt_or_ge j Bs.length with hl | hl
  · rw [List.getElem?_append_left hl] at hj
    have := hown (As.length + j) A (by rw [List.getElem?_append_right (by omega)]; simpa using hj)
    rw [part_eq (h' := h) (own' := fun k => if own k < As.length then own k + Bs.length else if own k < As.length + Bs.length then own k - As.length else own k) (j := j) (fun k => ?_) (fun _ _ => rfl)] at this
    · exact this
    · constructor
      · intro e; rw [if_neg (by omega), if_pos (by omega)]; omega
      · intro e; split at e
        · omega
        · split at e <;> omega
  · rw [List.getElem?_append_right hl] at hj
    have hjl := (List.getElem?_eq_some_iff.1 hj).1
    have := hown (j - Bs.length) A (by rw [List.getElem?_append_left hjl]; exact hj)
    rw [part_eq (h' := h) (own' := fun k => if own k < As.length then own k + Bs.length else if own k < As.length + Bs.length then own k - As.length else own k) (j := j) (fun k => ?_) (fun _ _ => rfl)] at this
    · exact this
    · constructor
      · intro e; rw [if_pos (by omega)]; omega
      · intro e; split at e
        · omega
        · split at e <;> omega
theorem seps_at {Γ : List Asn} {h : Hp} (hs : seps Γ h) (i : Nat) {A : Asn} (hA : Γ[i]? = some A) {σ : Type} {B : σ → Asn} (hB : ∀ h', (∀ k o, h' k = some o → h k = some o) → A h' → ∃ x, B x h') : ∃ x, seps (Γ.set i (B x)) h := by
  obtain ⟨own, hown⟩ := hs
  obtain ⟨x, hx⟩ := hB _ (fun k o e => (part_some e).2) (hown i A hA)
  refine ⟨x, own, fun j C hj => ?_⟩
  rw [List.getElem?_set] at hj
  split at hj
  · rename_i e; subst e
    split at hj
    · cases hj; exact hx
    · cases hj
  · exact hown j C hj

/-! ### The same of a world -/
section
variable {z w : World} {Γ : List Asn}
theorem Sep.same {w' : World} (H : Sep z Γ w) (h1 : w'.os = w.os) (h2 : w'.tape = w.tape) (h3 : w'.output = w.output) (h4 : ∀ k : Nat, w'.heap[k]? = w.heap[k]?) : Sep z Γ w' :=
  ⟨h1.trans H.os, h2.trans H.tape, h3.trans H.output, (show hp w' = hp w from funext h4) ▸ H.own⟩
theorem Sep.drew (H : Sep z Γ w) : Sep z Γ w.drew := H.same rfl rfl rfl fun _ => rfl
theorem Sep.drawn (H : Sep z Γ w) (n : Nat) : Sep z Γ { w with drawn := n } := H.same rfl rfl rfl fun _ => rfl
theorem Sep.pick (n : Nat) (is : List Nat) (H : Sep z Γ w) (hok : okIs n is = true) : Sep z (picks Γ is ++ Γ.drop n) w := ⟨H.os, H.tape, H.output, seps_pick H.own n is hok⟩
theorem Sep.as {Γ' : List Asn} (H : Sep z Γ w) (e : Γ = Γ') : Sep z Γ' w := e ▸ H
/-- these parts, in this order -/
theorem Sep.perm (n : Nat) (is : List Nat) {Γ' : List Asn} (H : Sep z Γ w) (hok : okIs n is = true) (e : picks Γ is ++ Γ.drop n = Γ') : Sep z Γ' w := e ▸ H.pick n is hok
theorem Sep.opened {As : List Asn} (H : Sep z (seps As :: Γ) w) : Sep z (As ++ Γ) w := ⟨H.os, H.tape, H.output, seps_open H.own⟩
theorem Sep.shut {As : List Asn} (H : Sep z (As ++ Γ) w) : Sep z (seps As :: Γ) w := ⟨H.os, H.tape, H.output, seps_shut H.own⟩
theorem Sep.swap {As Bs : List Asn} (H : Sep z (As ++ Bs) w) : Sep z (Bs ++ As) w := ⟨H.os, H.tape, H.output, seps_swap H.own⟩
theorem Sep.front {As Bs : List Asn} (H : Sep z (As ++ Bs) w) : Sep z As w := by
  have h1 := H.swap
  have : seps As (hp w) := by
    obtain ⟨own, ho⟩ := h1.own
    refine ⟨fun k => if own k < Bs.length then As.length else own k - Bs.length, fun j A hj => ?_⟩
    have hjl := (List.getElem?_eq_some_iff.1 hj).1
    have := ho (Bs.length + j) A (by rw [List.getElem?_append_right (by omega)]; simpa using hj)
    rwa [part_eq (h' := hp w) (own' := fun k => if own k < Bs.length then As.length else own k - Bs.length) (j := j) (fun k => ⟨fun e => by rw [if_neg (by omega)]; omega, fun e => by split at e <;> omega⟩) (fun _ _ => rfl)] at this
  exact ⟨H.os, H.tape, H.output, this⟩
/-- a part is told in another way -/
theorem Sep.ex (i : Nat) {A : Asn} {σ : Type} {B : σ → Asn} (H : Sep z Γ w) (hA : Γ[i]? = some A) (hB : ∀ h, A h → ∃ x, B x h) : ∃ x, Sep z (Γ.set i (B x)) w := by
  obtain ⟨x, hx⟩ := seps_at H.own i hA (fun h _ q => hB h q)
  exact ⟨x, H.os, H.tape, H.output, hx⟩
theorem Sep.mono (i : Nat) {A B : Asn} (H : Sep z Γ w) (hA : Γ[i]? = some A) (hB : ∀ h, A h → B h) : Sep z (Γ.set i B) w := by
  obtain ⟨_, hx⟩ := H.ex i (σ := Unit) (B := fun _ => B) hA (fun h q => ⟨(), hB h q⟩)
  exact hx
theorem Sep.exAt (i : Nat) {A : Asn} {σ : Type} {p : σ → Prop} {B : σ → Asn} (H : Sep z Γ w) (hA : Γ[i]? = some A) (hB : ∀ h, A h → ∃ x, p x ∧ B x h) : ∃ x, p x ∧ Sep z (Γ.set i (B x)) w := by
  obtain ⟨⟨x, hp⟩, hx⟩ := H.ex i (σ := { x : σ // p x }) (B := fun x => B x.1) hA (fun h q => by obtain ⟨x, h1, h2⟩ := hB h q; exact ⟨⟨x, h1⟩, h2⟩)
  exact ⟨x, hp, hx⟩
/-- a part's own parts: A is p with As -/
theorem Sep.into {σ : Type} {A : Asn} {p : σ → Prop} {As : σ → List Asn} (H : Sep z (A :: Γ) w) (hA : ∀ h, A h → ∃ x, p x ∧ seps (As x) h) : ∃ x, p x ∧ Sep z (As x ++ Γ) w := by
  obtain ⟨⟨x, hp⟩, hx⟩ := H.ex 0 (σ := { x : σ // p x }) (B := fun x => seps (As x.1)) rfl (fun h q => by obtain ⟨x, h1, h2⟩ := hA h q; exact ⟨⟨x, h1⟩, h2⟩)
  exact ⟨x, hp, hx.opened⟩
/-- the first n parts as one -/
theorem Sep.made (n : Nat) {A : Asn} (H : Sep z Γ w) (hA : ∀ h, seps (Γ.take n) h → A h) : Sep z (A :: Γ.drop n) w := by
  have : Sep z (Γ.take n ++ Γ.drop n) w := by rw [List.take_append_drop]; exact H
  exact this.shut.mono 0 rfl hA
theorem Sep.get (i : Nat) {A : Asn} (H : Sep z Γ w) (hA : Γ[i]? = some A) : ∃ h, A h ∧ ∀ k o, h k = some o → w.heap[k]? = some o := by
  obtain ⟨own, hown⟩ := H.own
  exact ⟨_, hown i A hA, fun k o e => (part_some e).2⟩
theorem Sep.bk (i : Nat) {b : Nat} {o : Obj} (H : Sep z Γ w) (hA : Γ[i]? = some (bk b o)) : w.heap[b]? = some o := by
  obtain ⟨h, h1, h2⟩ := H.get i hA
  exact h2 _ _ h1
theorem Sep.blk (i : Nat) {b : Nat} {cs : List Value} {ty : TypeId} (H : Sep z Γ w) (hA : Γ[i]? = some (blk b cs ty)) : Blk b cs ty w := H.bk i hA
theorem Sep.cel (i : Nat) {b : Nat} {cs : List Value} {ty : TypeId} (H : Sep z Γ w) (hA : Γ[i]? = some (YtanejicgmgpjcaaGreatDoor.blk b cs ty)) (o : Nat) {v : Value} (hv : cs[o]? = some v) : Cel b o v w := (H.blk i hA).cel o hv
theorem Sep.ne (i j : Nat) {b b' : Nat} {o o' : Obj} (H : Sep z Γ w) (hA : Γ[i]? = some (YtanejicgmgpjcaaGreatDoor.bk b o)) (hB : Γ[j]? = some (YtanejicgmgpjcaaGreatDoor.bk b' o')) (hij : i ≠ j) : b ≠ b' := fun e => by
  obtain ⟨own, hown⟩ := H.own
  subst e
  have h1 := part_some (hown i _ hA)
  have h2 := part_some (hown j _ hB)
  exact hij (h1.1.symm.trans h2.1)
/-- a block is written -/
theorem Sep.write (i : Nat) {b : Nat} {o o' : Obj} {w' : World} (H : Sep z Γ w) (hA : Γ[i]? = some (YtanejicgmgpjcaaGreatDoor.bk b o)) (h1 : w'.os = w.os) (h2 : w'.tape = w.tape) (h3 : w'.output = w.output)
    (hb : w'.heap[b]? = some o') (hk : ∀ k, k ≠ b → w'.heap[k]? = w.heap[k]?) : Sep z (Γ.set i (YtanejicgmgpjcaaGreatDoor.bk b o')) w' := by
  refine ⟨h1.trans H.os, h2.trans H.tape, h3.trans H.output, ?_⟩
  obtain ⟨own, hown⟩ := H.own
  have hbi := (part_some (hown i _ hA)).1
  refine ⟨own, fun j C hj => ?_⟩
  rw [List.getElem?_set] at hj
  split at hj
  · rename_i e; subst e
    split at hj
    · cases hj
      unfold YtanejicgmgpjcaaGreatDoor.bk Hp.part hp
      rw [if_pos hbi, hb]
    · cases hj
  · rename_i e
    have := hown j C hj
    have e' : (hp w).part own j = (hp w').part own j := part_eq (fun _ => Iff.rfl) (fun k hkj => (hk k (fun q => e (by rw [← hkj, q, hbi]))).symm)
    rwa [e'] at this
/-- blocks come to be -/
theorem Sep.grow {A : Asn} {w' : World} (H : Sep z Γ w) (x : Ext No w w') (hA : A (fun k => if k < w.heap.size then none else w'.heap[k]?)) : Sep z (A :: Γ) w' := by
  refine ⟨x.os.trans H.os, x.tape.trans H.tape, x.output.trans H.output, ?_⟩
  obtain ⟨own, hown⟩ := H.own
  refine ⟨fun k => if k < w.heap.size then own k + 1 else 0, fun j C hj => ?_⟩
  cases j with
  | zero =>
    simp only [List.getElem?_cons_zero, Option.some.injEq] at hj
    subst hj
    have e : (hp w').part (fun k => if k < w.heap.size then own k + 1 else 0) 0 = fun k => if k < w.heap.size then none else w'.heap[k]? := by
      funext k
      unfold Hp.part hp
      dsimp only
      by_cases q : k < w.heap.size
      · simp [q]
      · simp [q]
    rw [e]; exact hA
  | succ j =>
    simp only [List.getElem?_cons_succ] at hj
    have := hown j C hj
    have e : (hp w').part (fun k => if k < w.heap.size then own k + 1 else 0) (j + 1) = (hp w).part own j := by
      funext k
      unfold Hp.part hp
      dsimp only
      by_cases q : k < w.heap.size
      · simp only [q, if_true, Nat.add_right_cancel_iff]
        by_cases q' : own k = j
        · simp only [q', if_true]; exact x.block k q (fun r => r)
        · simp [q']
      · have : w.heap[k]? = none := Array.getElem?_eq_none (by omega)
        simp [q, this]
    rwa [e]
theorem Sep.ext0 {w' : World} (H : Sep z Γ w) (x : Ext No w w') : Sep z Γ w' := by
  have := H.grow (A := emp) x trivial
  have := this.perm 1 [] (Γ' := Γ) rfl rfl
  exact this
theorem Sep.new {b : Nat} {o : Obj} {w' : World} (H : Sep z Γ w) (x : Ext No w w') (hb : w.heap.size ≤ b) (ho : w'.heap[b]? = some o) : Sep z (YtanejicgmgpjcaaGreatDoor.bk b o :: Γ) w' :=
  H.grow x (show (if b < w.heap.size then none else w'.heap[b]?) = some o by rw [if_neg (by omega)]; exact ho)
theorem Sep.start (z : World) : Sep z [base z] z := ⟨rfl, rfl, rfl, fun _ => 0, fun i A hi => by
  cases i with
  | zero => simp at hi; subst hi; intro k _; unfold Hp.part hp; rw [if_pos rfl]
  | succ i => simp at hi⟩
theorem Sep.done (i : Nat) (H : Sep z Γ w) (hA : Γ[i]? = some (base z)) : Ext No z w := by
  obtain ⟨h, h1, h2⟩ := H.get i hA
  have key : ∀ k, k < z.heap.size → w.heap[k]? = z.heap[k]? := fun k hk => by
    have e : z.heap[k]? = some z.heap[k] := Array.getElem?_eq_getElem hk
    rw [e]; exact h2 k _ ((h1 k hk).trans e)
  refine ⟨H.os, H.tape, H.output, ?_, fun k hk _ => key k hk⟩
  rcases Nat.lt_or_ge w.heap.size z.heap.size with q | q
  · have := key w.heap.size q
    rw [Array.getElem?_eq_none (Nat.le_refl _), Array.getElem?_eq_getElem q] at this
    cases this
  · exact q
end

/-! ### What a function does -/
/-- From parts 'pre' (and others) the call comes to a value and parts of which 'post' holds; all others stay. -/
def Cn (P : Program) (f : FuncId) (args : List Value) (pre : List Asn) (post : Value → List Asn → Prop) : Prop :=
  ∀ z R w, Sep z (pre ++ R) w → Calls P f args.toArray w (Ret fun v w' => ∃ Γ', post v Γ' ∧ Sep z (Γ' ++ R) w')
theorem Cn.mono {P : Program} {f : FuncId} {args : List Value} {pre : List Asn} {post post' : Value → List Asn → Prop} (h : Cn P f args pre post) (hp : ∀ v Γ, post v Γ → post' v Γ) : Cn P f args pre post' :=
  fun z R w H => Ret.mono (h z R w H) fun _ _ ⟨Γ', q, H'⟩ => ⟨Γ', hp _ _ q, H'⟩
/-- what only makes memory -/
theorem Cn.of_ext {P : Program} {f : FuncId} {args : List Value} {u : Value} (h : ∀ w, Calls P f args.toArray w (Ret fun v w' => v = u ∧ Ext No w w')) : Cn P f args [] (fun v Γ => v = u ∧ Γ = []) :=
  fun _ _ w H => Ret.mono (h w) fun _ _ ⟨q, x⟩ => ⟨[], ⟨q, rfl⟩, H.ext0 x⟩
/-- parts beside -/
theorem Cn.frame {P : Program} {f : FuncId} {args : List Value} {pre : List Asn} {post : Value → List Asn → Prop} (h : Cn P f args pre post) (F : List Asn) : Cn P f args (pre ++ F) (fun v Γ => ∃ Γ', post v Γ' ∧ Γ = Γ' ++ F) :=
  fun z R w H => Ret.mono (h z (F ++ R) w (by rw [← List.append_assoc]; exact H)) fun _ _ ⟨Γ', q, H'⟩ => ⟨Γ' ++ F, ⟨Γ', q, rfl⟩, by rw [List.append_assoc]; exact H'⟩
theorem k_updA {n : Nat} {ds : List Deferred} {L : List (Nat × Value)} {K : Act → Prop} (t : Nat) {v u : Value} (ht : look L t = some u) (e : u = v) (h : ∀ a, Fr n ds ((t, v) :: L) a → K a) : ∀ a, Fr n ds L a → K a := fun a hF => h a (hF.upd t ht e)
end Go.Proofs.YtanejicgmgpjcaaGreatDoor
