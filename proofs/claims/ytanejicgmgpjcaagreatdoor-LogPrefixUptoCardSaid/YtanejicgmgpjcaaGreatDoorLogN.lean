/-
  What writing a sector does to a disk's entries. No condition.
-/
import Derived.Test.YtanejicgmgpjcaaGreatDoorLogM
set_option maxRecDepth 100000
namespace Go.Proofs.YtanejicgmgpjcaaGreatDoor

def upf {α : Type} (f : Nat → α) (i : Nat) (x : α) : Nat → α := fun k => if k = i then x else f k
theorem upf_same {α : Type} (f : Nat → α) (i : Nat) (x : α) : upf f i x i = x := by simp [upf]
theorem upf_other {α : Type} (f : Nat → α) {i k : Nat} (x : α) (h : k ≠ i) : upf f i x k = f k := by simp [upf, h]
/-- one sector is written -/
def Dsk.w1 (D : Dsk) (fua : Bool) (i : Nat) (p : List UInt8) : Dsk :=
  if fua then { D with dur := upf D.dur i p, ver := upf D.ver i [] } else { D with ver := upf D.ver i (D.ver i ++ [p]) }
/-- sectors are written, one behind the other -/
def Dsk.ws (D : Dsk) (fua : Bool) (i : Nat) : List (List UInt8) → Dsk
  | [] => D
  | p :: ps => (D.w1 fua i p).ws fua (i + 1) ps
theorem Dsk.w1_n (D : Dsk) (fua : Bool) (i : Nat) (p : List UInt8) : (D.w1 fua i p).n = D.n := by cases fua <;> rfl
theorem Dsk.w1_f (D : Dsk) (fua : Bool) (i : Nat) (p : List UInt8) : (D.w1 fua i p).f1 = D.f1 ∧ (D.w1 fua i p).f2 = D.f2 ∧ (D.w1 fua i p).f3 = D.f3 ∧ (D.w1 fua i p).cut = D.cut ∧ (D.w1 fua i p).left = D.left := by cases fua <;> exact ⟨rfl, rfl, rfl, rfl, rfl⟩
theorem Dsk.ws_snoc (fua : Bool) (ps : List (List UInt8)) (p : List UInt8) : ∀ (D : Dsk) (i : Nat), D.ws fua i (ps ++ [p]) = (D.ws fua i ps).w1 fua (i + ps.length) p := by
  induction ps with
  | nil => intro D i; rfl
  | cons q qs ih => intro D i; simp only [List.cons_append, Dsk.ws, ih, List.length_cons]; rw [show i + 1 + qs.length = i + (qs.length + 1) from by omega]
theorem Dsk.ws_n (fua : Bool) (ps : List (List UInt8)) : ∀ (D : Dsk) (i : Nat), (D.ws fua i ps).n = D.n := by
  induction ps with
  | nil => intro D i; rfl
  | cons q qs ih => intro D i; simp only [Dsk.ws, ih, Dsk.w1_n]
theorem Dsk.ws_f (fua : Bool) (ps : List (List UInt8)) : ∀ (D : Dsk) (i : Nat), (D.ws fua i ps).f1 = D.f1 ∧ (D.ws fua i ps).f2 = D.f2 ∧ (D.ws fua i ps).f3 = D.f3 ∧ (D.ws fua i ps).cut = D.cut ∧ (D.ws fua i ps).left = D.left := by
  induction ps with
  | nil => intro D i; exact ⟨rfl, rfl, rfl, rfl, rfl⟩
  | cons q qs ih => intro D i; simp only [Dsk.ws]; rw [(ih _ _).1, (ih _ _).2.1, (ih _ _).2.2.1, (ih _ _).2.2.2.1, (ih _ _).2.2.2.2]; exact Dsk.w1_f D fua i q
theorem Dsk.Ok.w1 {D : Dsk} (h : D.Ok) {fua : Bool} {i : Nat} {p : List UInt8} (hp : p.length = 256) : (D.w1 fua i p).Ok := by
  cases fua with
  | true =>
    refine ⟨h.n1, h.n2, fun j hj => ?_, fun j hj q hq => ?_, h.f1, h.f2, h.f3, h.left⟩
    · show (upf D.dur i p j).length = 256
      unfold upf; split
      · exact hp
      · exact h.dur j hj
    · have hq' : q ∈ upf D.ver i [] j := hq
      unfold upf at hq'; split at hq'
      · cases hq'
      · exact h.ver j hj q hq'
  | false =>
    refine ⟨h.n1, h.n2, h.dur, fun j hj q hq => ?_, h.f1, h.f2, h.f3, h.left⟩
    have hq' : q ∈ upf D.ver i (D.ver i ++ [p]) j := hq
    unfold upf at hq'; split at hq'
    · rename_i e; subst e
      rcases List.mem_append.1 hq' with h' | h'
      · exact h.ver j hj q h'
      · rw [List.mem_singleton.1 h']; exact hp
    · exact h.ver j hj q hq'
theorem Dsk.Ok.ws {fua : Bool} (ps : List (List UInt8)) : ∀ {D : Dsk} {i : Nat}, D.Ok → (∀ p ∈ ps, p.length = 256) → (D.ws fua i ps).Ok := by
  induction ps with
  | nil => intro D i h _; exact h
  | cons q qs ih => intro D i h hp; exact ih (h.w1 (hp q (by simp))) (fun p hq => hp p (by simp [hq]))
theorem Ent.Ok.le {hq hq2 : Hp} {e : Ent} (h : e.Ok hq) (s : subH hq hq2) : e.Ok hq2 := ⟨h.1, h.2.1, fun j pv p h1 h2 => ⟨(h.2.2 j pv p h1 h2).1, (h.2.2 j pv p h1 h2).2.le s⟩⟩
theorem Dsk.In.le {D : Dsk} {bs : List UInt8} {es : List Ent} {clk : Nat} {hq hq2 : Hp} (h : D.In bs es clk hq) (s : subH hq hq2) : D.In bs es clk hq2 :=
  ⟨h.len, h.own, fun e he => ⟨(h.ent e he).1, (h.ent e he).2.1, (h.ent e he).2.2.le s⟩, h.all, h.nodup, h.born, h.clk⟩

/-! ### parts among parts -/
theorem seps_perm1 {As : List Asn} {h : Hp} (hs : seps As h) (i : Nat) {A : Asn} (hi : As[i]? = some A) : seps (A :: As.eraseIdx i) h := by
  obtain ⟨own, ho⟩ := hs
  have hil := (List.getElem?_eq_some_iff.1 hi).1
  refine ⟨fun k => if own k = i then 0 else if own k < i then own k + 1 else own k, fun j B hj => ?_⟩
  cases j with
  | zero =>
    simp only [List.getElem?_cons_zero, Option.some.injEq] at hj
    subst hj
    have := ho i A hi
    rwa [part_eq (h' := h) (own' := fun k => if own k = i then 0 else if own k < i then own k + 1 else own k) (j := 0) (fun k => ⟨fun e => by rw [if_pos e], fun e => by
      split at e
      · assumption
      · split at e <;> omega⟩) (fun _ _ => rfl)] at this
  | succ j =>
    simp only [List.getElem?_cons_succ] at hj
    rw [List.getElem?_eraseIdx] at hj
    split at hj
    · rename_i hlt
      have := ho j B hj
      rwa [part_eq (h' := h) (own' := fun k => if own k = i then 0 else if own k < i then own k + 1 else own k) (j := j + 1) (fun k => ⟨fun e => by rw [if_neg (by omega), if_pos (by omega)]; omega, fun e => by
        split at e
        · omega
        · split at e <;> omega⟩) (fun _ _ => rfl)] at this
    · rename_i hge
      have := ho (j + 1) B hj
      rwa [part_eq (h' := h) (own' := fun k => if own k = i then 0 else if own k < i then own k + 1 else own k) (j := j + 1) (fun k => ⟨fun e => by rw [if_neg (by omega), if_neg (by omega)]; omega, fun e => by
        split at e
        · omega
        · split at e <;> omega⟩) (fun _ _ => rfl)] at this
theorem seps_back {As : List Asn} {h : Hp} (i : Nat) {A : Asn} (hi : i < As.length) (hs : seps (A :: As.eraseIdx i) h) : seps (As.set i A) h := by
  obtain ⟨own, ho⟩ := hs
  have hlen : (As.eraseIdx i).length = As.length - 1 := List.length_eraseIdx_of_lt hi
  refine ⟨fun k => if own k = 0 then i else if own k ≤ i then own k - 1 else own k, fun j B hj => ?_⟩
  by_cases e : j = i
  · subst e
    rw [List.getElem?_set_self hi] at hj
    simp only [Option.some.injEq] at hj
    subst hj
    have := ho 0 A rfl
    rwa [part_eq (h' := h) (own' := fun k => if own k = 0 then j else if own k ≤ j then own k - 1 else own k) (j := j) (fun k => ⟨fun e => by rw [if_pos e], fun e => by
      split at e
      · assumption
      · split at e <;> omega⟩) (fun _ _ => rfl)] at this
  · rw [List.getElem?_set_ne (Ne.symm e)] at hj
    have hjl := (List.getElem?_eq_some_iff.1 hj).1
    rcases Nat.lt_or_ge j i with hlt | hge
    · have := ho (j + 1) B (by rw [List.getElem?_cons_succ, List.getElem?_eraseIdx, if_pos hlt]; exact hj)
      rwa [part_eq (h' := h) (own' := fun k => if own k = 0 then i else if own k ≤ i then own k - 1 else own k) (j := j) (fun k => ⟨fun e => by rw [if_neg (by omega), if_pos (by omega)]; omega, fun e => by
        split at e
        · omega
        · split at e <;> omega⟩) (fun _ _ => rfl)] at this
    · obtain ⟨q, rfl⟩ : ∃ q, j = q + 1 := ⟨j - 1, by omega⟩
      have := ho (q + 1) B (by rw [List.getElem?_cons_succ, List.getElem?_eraseIdx, if_neg (by omega)]; exact hj)
      rwa [part_eq (h' := h) (own' := fun k => if own k = 0 then i else if own k ≤ i then own k - 1 else own k) (j := q + 1) (fun k => ⟨fun e => by rw [if_neg (by omega), if_neg (by omega)]; omega, fun e => by
        split at e
        · omega
        · split at e <;> omega⟩) (fun _ _ => rfl)] at this
/-- the last part beside -/
theorem seps_snoc {As : List Asn} {A : Asn} {h : Hp} (hs : seps (A :: As) h) : seps (As ++ [A]) h := seps_swap (As := [A]) (Bs := As) hs
theorem seps_tail {As : List Asn} {A : Asn} {h : Hp} (hs : seps (A :: As) h) : seps As h := by
  have := seps_pick hs 1 [] rfl
  exact this

theorem get_upd (l : List IE) (k : Int) (v : Value) : getM (updM l k v) k = (getM l k).map fun _ => v := by
  induction l with
  | nil => rfl
  | cons p l ih =>
    simp only [updM, getM]
    split
    · simp [getM]
    · rename_i e; simp only [getM, if_neg e]; exact ih
theorem upd_ent (es : List Ent) (k : Nat) (v' : Value) (f : Ent → Ent) (hf : ∀ e, (f e).key = e.key ∧ (f e).v = v' ∧ (f e).born = e.born) : ∀ (i : Nat) (e : Ent), (es.map Ent.key).Nodup → es[i]? = some e → e.key = k → updM (es.map Ent.ie) (k : Int) v' = (es.set i (f e)).map Ent.ie := by
  induction es with
  | nil => intro i e _ h; simp at h
  | cons x xs ih =>
    intro i e hn hi hk
    simp only [List.map_cons, List.nodup_cons] at hn
    cases i with
    | zero =>
      simp only [List.getElem?_cons_zero, Option.some.injEq] at hi
      subst hi; subst hk
      simp [updM, Ent.ie, hf]
    | succ i =>
      simp only [List.getElem?_cons_succ] at hi
      have hne : ¬ (k : Int) = (x.key : Int) := by
        intro q
        have : x.key = e.key := by omega
        exact hn.1 (this ▸ List.mem_map_of_mem (List.mem_of_getElem? hi))
      simp only [List.map_cons, updM, List.set_cons_succ]
      rw [if_neg (by simpa [Ent.ie] using hne), ih i e hn.2 hi hk]
theorem del_ent (es : List Ent) (k : Nat) : ∀ (i : Nat) (e : Ent), (es.map Ent.key).Nodup → es[i]? = some e → e.key = k → delM (es.map Ent.ie) (k : Int) = (es.eraseIdx i).map Ent.ie := by
  induction es with
  | nil => intro i e _ h; simp at h
  | cons x xs ih =>
    intro i e hn hi hk
    simp only [List.map_cons, List.nodup_cons] at hn
    cases i with
    | zero =>
      simp only [List.getElem?_cons_zero, Option.some.injEq] at hi
      subst hi; subst hk
      simp [delM, Ent.ie]
    | succ i =>
      simp only [List.getElem?_cons_succ] at hi
      have hne : ¬ (k : Int) = (x.key : Int) := by
        intro q
        have : x.key = e.key := by omega
        exact hn.1 (this ▸ List.mem_map_of_mem (List.mem_of_getElem? hi))
      simp only [List.map_cons, delM, List.eraseIdx_cons_succ]
      rw [if_neg (by simpa [Ent.ie] using hne), ih i e hn.2 hi hk]

theorem nodup_idx {α β : Type} {f : α → β} {l : List α} (hn : (l.map f).Nodup) {i j : Nat} {a b : α} (hi : l[i]? = some a) (hj : l[j]? = some b) (e : f a = f b) : i = j := by
  have h1 := (List.getElem?_eq_some_iff.1 hi).1
  have h2 := (List.getElem?_eq_some_iff.1 hj).1
  refine (List.getElem_inj (xs := l.map f) (h₀ := by simpa using h1) (h₁ := by simpa using h2) hn).1 ?_
  simp only [List.getElem_map]
  rw [(List.getElem?_eq_some_iff.1 hi).2, (List.getElem?_eq_some_iff.1 hj).2, e]
/-- a version more: the row of a sector's versions, by itself -/
theorem row_split {z w : World} {Γ : List Asn} {D : Dsk} {bs : List UInt8} {es : List Ent} {clk : Nat} {hq : Hp} (hI : D.In bs es clk hq) {k : Nat} (hk : k < D.n) (H : Sep z (seps (es.map Ent.row) :: Γ) w) :
    ∃ (v : Value) (pvs : List Value) (Rest : List Asn), (getM (es.map Ent.ie) (k : Int)).getD (.slice none 0 0) = v ∧ pvs.length = (D.ver k).length ∧ Sep z (grow 70 1 v pvs.length pvs :: seps Rest :: Γ) w ∧
      ∀ (v' pv : Value) (p : List UInt8), p.length = 256 → rdH 1 pv 256 (p.map u8) hq → ∃ es', (D.w1 false k p).In bs es' (putC (es.map Ent.ie) k clk) hq ∧ putM (es.map Ent.ie) k v' clk = es'.map Ent.ie ∧
        ∀ h, seps (grow 70 1 v' (pvs.length + 1) (pvs ++ [pv]) :: [seps Rest]) h → seps (es'.map Ent.row) h := by
  rcases get_ent es k hI.nodup with ⟨hg, hn⟩ | ⟨i, e, hi, he, hg⟩
  · have hv : D.ver k = [] := by
      cases hvk : D.ver k with
      | nil => rfl
      | cons p ps =>
        obtain ⟨e, he, hek⟩ := hI.all k hk (by rw [hvk]; simp)
        exact absurd hek (hn e he)
    refine ⟨.slice none 0 0, [], es.map Ent.row, by simp [hg], by rw [hv]; rfl, H.void fun h => grow.nil _ _ h, fun v' pv p hp hr => ?_⟩
    have hh : hasM (es.map Ent.ie) (k : Int) = false := by simp [hasM, hg]
    refine ⟨es ++ [⟨k, v', [pv], [p], clk⟩], ⟨hI.len, hI.own, ?_, ?_, ?_, ?_, ?_⟩, ?_, fun h hs => ?_⟩
    · intro e he
      rcases List.mem_append.1 he with he | he
      · obtain ⟨h1, h2, h3⟩ := hI.ent e he
        exact ⟨h1, h2.trans (upf_other D.ver _ (hn e he)).symm, h3⟩
      · rw [List.mem_singleton.1 he]
        refine ⟨hk, ?_, rfl, by simp, fun j pv' p' h1 h2 => ?_⟩
        · show [p] = upf D.ver k (D.ver k ++ [p]) k
          rw [upf_same, hv]; rfl
        · have : j = 0 := by have := (List.getElem?_eq_some_iff.1 h1).1; simpa using this
          subst this
          simp at h1 h2; subst h1; subst h2
          exact ⟨hp, hr⟩
    · intro j hj hjv
      by_cases e : j = k
      · exact ⟨_, List.mem_append_right _ (List.mem_singleton.2 rfl), e.symm⟩
      · have : D.ver j ≠ [] := by
          have h' : upf D.ver k (D.ver k ++ [p]) j ≠ [] := hjv
          rwa [upf_other _ _ e] at h'
        obtain ⟨e', he', hek⟩ := hI.all j hj this
        exact ⟨e', List.mem_append_left _ he', hek⟩
    · rw [List.map_append]
      refine List.nodup_append.2 ⟨hI.nodup, by simp, fun a ha b hb => ?_⟩
      simp at hb; subst hb
      obtain ⟨e', he', rfl⟩ := List.mem_map.1 ha
      exact hn e' he'
    · rw [List.map_append]
      refine List.nodup_append.2 ⟨hI.born, by simp, fun a ha b hb => ?_⟩
      simp at hb; subst hb
      obtain ⟨e', he', rfl⟩ := List.mem_map.1 ha
      have := hI.clk e' he'
      omega
    · intro e he
      simp only [putC, hh, if_false, Bool.false_eq_true]
      rcases List.mem_append.1 he with he | he
      · have := hI.clk e he; omega
      · rw [List.mem_singleton.1 he]; show clk < clk + 1; omega
    · simp [putM, hh, Ent.ie]
    · rw [List.map_append]
      refine seps_snoc ?_
      have h2 := seps_swap (As := [grow 70 1 v' 1 [pv]]) (Bs := [seps (es.map Ent.row)]) hs
      have h3 := seps_open h2
      exact seps_swap (As := es.map Ent.row) (Bs := [grow 70 1 v' 1 [pv]]) h3
  · obtain ⟨_, h2, h3, h4, h5⟩ := hI.ent e (List.mem_of_getElem? hi)
    subst he
    have hil := (List.getElem?_eq_some_iff.1 hi).1
    have hh : hasM (es.map Ent.ie) (e.key : Int) = true := by simp [hasM, hg]
    refine ⟨e.v, e.pvs, (es.map Ent.row).eraseIdx i, by simp [hg], h3.trans (congrArg _ h2), ?_, fun v' pv p hp hr => ?_⟩
    · have H1 := H.mono 0 (B := seps (e.row :: [seps ((es.map Ent.row).eraseIdx i)])) rfl (fun h hs => by
        have h1 := seps_perm1 hs i (A := e.row) (by rw [List.getElem?_map, hi]; rfl)
        have h1' : seps ((es.map Ent.row).eraseIdx i ++ [e.row]) h := seps_swap (As := [e.row]) (Bs := (es.map Ent.row).eraseIdx i) h1
        have h2' := seps_shut h1'
        exact seps_swap (As := [seps ((es.map Ent.row).eraseIdx i)]) (Bs := [e.row]) h2')
      exact Sep.opened (As := [e.row, seps ((es.map Ent.row).eraseIdx i)]) H1
    · refine ⟨es.set i { e with v := v', pvs := e.pvs ++ [pv], ps := e.ps ++ [p] }, ⟨hI.len, hI.own, ?_, ?_, ?_, ?_, ?_⟩, ?_, fun h hs => ?_⟩
      · intro e' he'
        obtain ⟨j, hj⟩ := List.getElem?_of_mem he'
        rw [List.getElem?_set] at hj
        split at hj
        · rename_i q
          subst q
          simp only [hil, if_true, Option.some.injEq] at hj
          subst hj
          refine ⟨hk, ?_, by simp [h3], by simp, fun j' pv' p' q1 q2 => ?_⟩
          · show e.ps ++ [p] = upf D.ver e.key (D.ver e.key ++ [p]) e.key
            rw [upf_same, h2]
          · rcases Nat.lt_or_ge j' e.pvs.length with q | q
            · rw [List.getElem?_append_left q] at q1
              rw [List.getElem?_append_left (by omega)] at q2
              exact h5 j' pv' p' q1 q2
            · rw [List.getElem?_append_right q] at q1
              rw [List.getElem?_append_right (by omega)] at q2
              have : j' - e.pvs.length = 0 := by have := (List.getElem?_eq_some_iff.1 q1).1; simpa using this
              rw [this] at q1
              rw [show j' - e.ps.length = 0 from by omega] at q2
              simp at q1 q2; subst q1; subst q2
              exact ⟨hp, hr⟩
        · rename_i q
          obtain ⟨h1, h2', h3'⟩ := hI.ent e' (List.mem_of_getElem? hj)
          have hne : e'.key ≠ e.key := fun q' => by
            exact q (nodup_idx hI.nodup hi hj q'.symm)
          exact ⟨h1, h2'.trans (upf_other D.ver _ hne).symm, h3'⟩
      · intro j hj hjv
        by_cases q : j = e.key
        · exact ⟨_, List.mem_of_getElem? (List.getElem?_set_self hil), q.symm⟩
        · have : D.ver j ≠ [] := by
            have h' : upf D.ver e.key (D.ver e.key ++ [p]) j ≠ [] := hjv
            rwa [upf_other _ _ q] at h'
          obtain ⟨e', he', hek⟩ := hI.all j hj this
          obtain ⟨j', hj'⟩ := List.getElem?_of_mem he'
          have hne : i ≠ j' := fun q' => by
            subst q'; rw [hi] at hj'; cases hj'; exact q hek.symm
          exact ⟨e', List.mem_of_getElem? (by rw [List.getElem?_set_ne hne]; exact hj'), hek⟩
      · rw [List.map_set]
        have : (es.map Ent.key).set i e.key = es.map Ent.key := List.ext_getElem? fun j => by
          rw [List.getElem?_set]
          split
          · rename_i q; subst q; simp [hil, (List.getElem?_eq_some_iff.1 hi).2]
          · rfl
        exact (show ((es.map Ent.key).set i e.key).Nodup by rw [this]; exact hI.nodup)
      · rw [List.map_set]
        have : (es.map Ent.born).set i e.born = es.map Ent.born := List.ext_getElem? fun j => by
          rw [List.getElem?_set]
          split
          · rename_i q; subst q; simp [hil, (List.getElem?_eq_some_iff.1 hi).2]
          · rfl
        exact (show ((es.map Ent.born).set i e.born).Nodup by rw [this]; exact hI.born)
      · intro e' he'
        simp only [putC, hh, if_true]
        obtain ⟨j, hj⟩ := List.getElem?_of_mem he'
        rw [List.getElem?_set] at hj
        split at hj
        · simp only [hil, if_true, Option.some.injEq] at hj
          subst hj
          exact hI.clk e (List.mem_of_getElem? hi)
        · exact hI.clk e' (List.mem_of_getElem? hj)
      · simp only [putM, hh, if_true]
        exact upd_ent es e.key v' (fun x => { x with v := v', pvs := x.pvs ++ [pv], ps := x.ps ++ [p] }) (fun x => ⟨rfl, rfl, rfl⟩) i e hI.nodup hi rfl
      · rw [List.map_set]
        refine seps_back i (by simpa using hil) ?_
        have h2 := seps_swap (As := [grow 70 1 v' (e.pvs.length + 1) (e.pvs ++ [pv])]) (Bs := [seps ((es.map Ent.row).eraseIdx i)]) hs
        have h3 := seps_open h2
        have h4 := seps_swap (As := (es.map Ent.row).eraseIdx i) (Bs := [grow 70 1 v' (e.pvs.length + 1) (e.pvs ++ [pv])]) h3
        have e1 : grow 70 1 v' (e.pvs.length + 1) (e.pvs ++ [pv]) = Ent.row { e with v := v', pvs := e.pvs ++ [pv], ps := e.ps ++ [p] } := by simp [Ent.row]
        rw [← e1]
        exact h4
/-- a sector's versions are gone -/
theorem del_split {D : Dsk} {bs bs' : List UInt8} {es : List Ent} {clk : Nat} {hq : Hp} (hI : D.In bs es clk hq) {k : Nat} (hk : k < D.n) {p : List UInt8} (hp : p.length = 256) (hbs : bs' = bs.take (k * 256) ++ p ++ bs.drop (k * 256 + 256)) :
    ∃ es', (D.w1 true k p).In bs' es' clk hq ∧ delM (es.map Ent.ie) k = es'.map Ent.ie ∧ ∀ h, seps (es.map Ent.row) h → seps (es'.map Ent.row) h := by
  have hn : D.n * 256 = bs.length := hI.len.symm
  have hkl : k * 256 + 256 ≤ bs.length := by omega
  have hlen : bs'.length = D.n * 256 := by subst hbs; simp [hp]; omega
  have hown : ∀ i, i < D.n → (bs'.drop (i * 256)).take 256 = (D.w1 true k p).dur i := fun i hi => by
    show _ = upf D.dur k p i
    subst hbs
    have e0 : (bs.take (k * 256)).length = k * 256 := by rw [List.length_take]; omega
    rcases Nat.lt_trichotomy i k with h | h | h
    · rw [upf_other _ _ (by omega), ← hI.own i hi]
      rw [List.append_assoc, List.drop_append_of_le_length (by omega), List.take_append_of_le_length (by rw [List.length_drop, e0]; omega)]
      rw [List.drop_take, List.take_take]
      rw [show min 256 (k * 256 - i * 256) = 256 from by omega]
    · subst h
      rw [upf_same, List.append_assoc, List.drop_append_of_le_length (by omega), List.drop_of_length_le (by omega), List.nil_append]
      rw [List.take_append_of_le_length (by omega), List.take_of_length_le (by omega)]
    · rw [upf_other _ _ (by omega), ← hI.own i hi]
      rw [List.drop_append, List.drop_of_length_le (by simp [hp]; omega), List.nil_append, List.drop_drop]
      congr 2
      simp [hp]; omega
  rcases get_ent es k hI.nodup with ⟨hg, hno⟩ | ⟨i, e, hi, he, hg⟩
  · refine ⟨es, ⟨hlen, hown, fun e he => ?_, fun j hj hjv => ?_, hI.nodup, hI.born, hI.clk⟩, del_none _ _ hg, fun h hs => hs⟩
    · obtain ⟨h1, h2, h3⟩ := hI.ent e he
      exact ⟨h1, h2.trans (upf_other D.ver _ (hno e he)).symm, h3⟩
    · have h' : upf D.ver k [] j ≠ [] := hjv
      by_cases q : j = k
      · subst q; rw [upf_same] at h'; exact absurd rfl h'
      · rw [upf_other _ _ q] at h'; exact hI.all j hj h'
  · subst he
    have hil := (List.getElem?_eq_some_iff.1 hi).1
    have hsub : (es.eraseIdx i).Sublist es := List.eraseIdx_sublist es i
    have hkey : ∀ e' ∈ es.eraseIdx i, e'.key ≠ e.key := fun e' he' q => by
      obtain ⟨j, hj⟩ := List.getElem?_of_mem he'
      rw [List.getElem?_eraseIdx] at hj
      have key : ∀ j', j' ≠ i → es[j']? = some e' → False := fun j' hne hj' => by
        exact hne (nodup_idx hI.nodup hj' hi q)
      split at hj
      · exact key j (by omega) hj
      · exact key (j + 1) (by omega) hj
    refine ⟨es.eraseIdx i, ⟨hlen, hown, fun e' he' => ?_, fun j hj hjv => ?_, (hsub.map Ent.key).nodup hI.nodup, (hsub.map Ent.born).nodup hI.born, fun e' he' => hI.clk e' (hsub.subset he')⟩, del_ent es e.key i e hI.nodup hi rfl, fun h hs => ?_⟩
    · obtain ⟨h1, h2, h3⟩ := hI.ent e' (hsub.subset he')
      exact ⟨h1, h2.trans (upf_other D.ver _ (hkey e' he')).symm, h3⟩
    · have h' : upf D.ver e.key [] j ≠ [] := hjv
      by_cases q : j = e.key
      · subst q; rw [upf_same] at h'; exact absurd rfl h'
      · rw [upf_other _ _ q] at h'
        obtain ⟨e', he', hek⟩ := hI.all j hj h'
        refine ⟨e', ?_, hek⟩
        obtain ⟨j', hj'⟩ := List.getElem?_of_mem he'
        have hne : j' ≠ i := fun q' => by subst q'; rw [hi] at hj'; cases hj'; exact q hek.symm
        rw [List.mem_eraseIdx_iff_getElem?]
        exact ⟨j', hne, hj'⟩
    · have h1 := seps_perm1 hs i (A := e.row) (by rw [List.getElem?_map, hi]; rfl)
      have h2 := seps_tail h1
      have e0 : (es.map Ent.row).eraseIdx i = (es.eraseIdx i).map Ent.row := by
        apply List.ext_getElem?
        intro j
        simp only [List.getElem?_eraseIdx, List.getElem?_map]
        split <;> rfl
      rwa [e0] at h2
/-- what was read-only memory joins the pool -/
theorem pool_add {z w : World} {Γ : List Asn} {hq : Hp} {b : Nat} {cs : List Value} {t : TypeId} (H : Sep z (poolA hq :: blk b cs t :: Γ) w) : ∃ hq2, (subH hq hq2 ∧ blk b cs t hq2) ∧ Sep z (poolA hq2 :: Γ) w := by
  have H1 : Sep z (seps [poolA hq, blk b cs t] :: Γ) w := Sep.shut (As := [poolA hq, blk b cs t]) H
  exact H1.exAt 0 (σ := Hp) (p := fun hq2 => subH hq hq2 ∧ blk b cs t hq2) (B := fun hq2 => poolA hq2) rfl (fun h hs => by
    refine ⟨h, ⟨fun k o e => ?_, ?_⟩, fun k o e => e⟩
    · obtain ⟨h', h1, h2⟩ := seps_mem hs (i := 0) rfl
      exact h2 _ _ (h1 _ _ e)
    · obtain ⟨h', h1, h2⟩ := seps_mem hs (i := 1) rfl
      exact h2 _ _ h1)

/-! ### a disk whose pool is named -/
def diskQ (pd : Nat) (D : Dsk) (hq : Hp) : Asn := fun h => ∃ (bd m : Nat) (f0 : Int) (bs : List UInt8) (es : List Ent) (clk : Nat), (D.Ok ∧ D.In bs es clk hq) ∧ seps (diskB pd bd m D f0 bs es clk hq) h
structure DskY where
  bd : Nat
  m : Nat
  f0 : Int
  bs : List UInt8
  es : List Ent
  clk : Nat
theorem Sep.diskQ {z w : World} {Γ : List Asn} {pd : Nat} {D : Dsk} {hq : Hp} (H : Sep z (YtanejicgmgpjcaaGreatDoor.diskQ pd D hq :: Γ) w) : ∃ bd m f0 bs es clk, D.Ok ∧ D.In bs es clk hq ∧ Sep z (diskB pd bd m D f0 bs es clk hq ++ Γ) w := by
  obtain ⟨x, ⟨h1, h2⟩, H⟩ := H.into (σ := DskY) (p := fun x => D.Ok ∧ D.In x.bs x.es x.clk hq) (As := fun x => diskB pd x.bd x.m D x.f0 x.bs x.es x.clk hq)
    (fun h a => by obtain ⟨bd, m, f0, bs, es, clk, hp, hs⟩ := a; exact ⟨⟨bd, m, f0, bs, es, clk⟩, hp, hs⟩)
  exact ⟨_, _, _, _, _, _, h1, h2, H⟩
theorem Sep.toDiskQ {z w : World} {Γ : List Asn} {pd bd m : Nat} {D : Dsk} {f0 : Int} {bs : List UInt8} {es : List Ent} {clk : Nat} {hq : Hp} (H : Sep z (diskB pd bd m D f0 bs es clk hq ++ Γ) w) (h1 : D.Ok) (h2 : D.In bs es clk hq) : Sep z (YtanejicgmgpjcaaGreatDoor.diskQ pd D hq :: Γ) w :=
  H.shut.mono 0 rfl (fun h a => ⟨_, _, _, _, _, _, ⟨h1, h2⟩, a⟩)
theorem diskQ.a {pd : Nat} {D : Dsk} {hq h : Hp} (a : diskQ pd D hq h) : diskA pd D h := by
  obtain ⟨_, _, _, _, _, _, hp, hs⟩ := a
  exact ⟨_, _, _, _, _, _, _, hp, hs⟩
theorem Dsk.w1_ver (D : Dsk) (fua : Bool) {i j : Nat} (p : List UInt8) (h : j ≠ i) : (D.w1 fua i p).ver j = D.ver j := by
  cases fua
  · exact upf_other D.ver _ h
  · exact upf_other D.ver _ h
theorem Dsk.ws_ver (fua : Bool) (ps : List (List UInt8)) : ∀ (D : Dsk) (i j : Nat), j < i ∨ i + ps.length ≤ j → (D.ws fua i ps).ver j = D.ver j := by
  induction ps with
  | nil => intro D i j _; rfl
  | cons q qs ih =>
    intro D i j h
    simp only [List.length_cons] at h
    simp only [Dsk.ws]
    rw [ih _ _ _ (by omega), Dsk.w1_ver _ _ _ (by omega)]
theorem Dsk.ws_take {D : Dsk} {fua : Bool} {k i : Nat} {ps : List (List UInt8)} {p : List UInt8} (h : ps[i]? = some p) : D.ws fua k (ps.take (i + 1)) = (D.ws fua k (ps.take i)).w1 fua (k + i) p := by
  rw [List.take_add_one, h]
  have hl := (List.getElem?_eq_some_iff.1 h).1
  rw [show (some p).toList = [p] from rfl, Dsk.ws_snoc, List.length_take, Nat.min_eq_left (by omega)]
/-- a piece of what is written -/
theorem piece_rd {g : Nat} {hq : Hp} {t : TypeId} {ps : List (List UInt8)} {rest : List Value} (hb : blk g (ps.flatten.map u8 ++ rest) t hq) (hps : ∀ p ∈ ps, p.length = 256) {i : Nat} {p : List UInt8} (h : ps[i]? = some p) : rdH 1 (.slice (some ⟨g, 0 + i * 256, none⟩) 256 256) 256 (p.map u8) hq := by
  have key : ∀ (ps : List (List UInt8)) (i : Nat) (p : List UInt8), (∀ p ∈ ps, p.length = 256) → ps[i]? = some p → (ps.flatten.drop (i * 256)).take 256 = p ∧ i * 256 + 256 ≤ ps.flatten.length := by
    intro ps
    induction ps with
    | nil => intro i p _ h; simp at h
    | cons q qs ih =>
      intro i p hl h
      have hq256 := hl q (by simp)
      cases i with
      | zero =>
        simp only [List.getElem?_cons_zero, Option.some.injEq] at h
        subst h
        simp [List.take_append_of_le_length, hq256]
      | succ i =>
        simp only [List.getElem?_cons_succ] at h
        obtain ⟨h1, h2⟩ := ih i p (fun p hp => hl p (by simp [hp])) h
        rw [List.flatten_cons, show (i + 1) * 256 = q.length + i * 256 from by omega, List.drop_append]
        refine ⟨?_, by rw [List.length_append]; omega⟩
        rw [List.drop_of_length_le (by omega), List.nil_append]
        rw [show q.length + i * 256 - q.length = i * 256 from by omega]
        exact h1
  obtain ⟨h1, h2⟩ := key ps i p hps h
  have hl : (ps.flatten.map u8).length = ps.flatten.length := List.length_map u8
  refine hb.rd (by omega) (by omega) (by rw [List.length_append, hl]; omega) ?_
  rw [Nat.zero_add, Nat.mul_one, List.drop_append_of_le_length (by rw [hl]; omega), List.take_append_of_le_length (by rw [List.length_drop, hl]; omega), ← List.map_drop, ← List.map_take, h1]
end Go.Proofs.YtanejicgmgpjcaaGreatDoor
