/-
  A log behind a crash: what is read is a beginning of what was appended; plainly. No condition.
-/
import Derived.Test.YtanejicgmgpjcaaGreatDoorLogZ
set_option maxRecDepth 100000
namespace Go.Proofs.YtanejicgmgpjcaaGreatDoor

/-! ### what a sector tells of itself -/
def Tg (c : List UInt8) (e q : Int) : Prop := (headP c ∧ headE c = e ∧ headS c = q) ∨ (imgP c ∧ imgX c = e ∧ imgY c = q)
theorem zero_img : ¬ imgP (List.replicate 256 0) := fun h => by
  have := h.2.1.1
  revert this; decide
theorem zero_tag (e q : Int) : ¬ Tg (List.replicate 256 0) e q := by
  rintro (⟨h, _⟩ | ⟨h, _⟩)
  · exact zero_head h
  · exact zero_img h
theorem head_no_img {c : List UInt8} (h : headP c) (g : imgP c) : False := by
  have h1 := h.1.2
  have h2 := g.2.1.2
  have : c.take 1 = [80] := by
    have := congrArg (List.take 1) h1
    rwa [List.take_take] at this
  rw [this] at h2
  revert h2; decide
variable {e q : Int} {ims : List Img}
theorem rec_cases {p : Nat} {c : List UInt8} (hp : (recB e q ims)[p]? = some c) : (p = 0 ∧ c = sect (hdL e q ims)) ∨ ∃ j m, p = j + 1 ∧ ims[j]? = some m ∧ c = sect (imgL e q m) := by
  cases p with
  | zero => simp [recB] at hp; exact .inl ⟨rfl, hp.symm⟩
  | succ j =>
    simp only [recB, List.getElem?_cons_succ, List.getElem?_map, Option.map_eq_some_iff] at hp
    obtain ⟨m, h1, h2⟩ := hp
    exact .inr ⟨j, m, rfl, h1, h2.symm⟩
theorem tag_rec (hl : 1 ≤ ims.length ∧ ims.length ≤ 40) (hok : ∀ m ∈ ims, m.Ok) (he : 0 ≤ e ∧ e < 4294967296) (hq : 0 ≤ q ∧ q < 1099511627776) {p : Nat} {c : List UInt8} (hp : (recB e q ims)[p]? = some c) {e' q' : Int} (h : Tg c e' q') : e' = e ∧ q' = q := by
  rcases rec_cases hp with ⟨rfl, rfl⟩ | ⟨j, m, rfl, hm, rfl⟩
  · have hP := hd_P hl (e := e) (sq := q) (by omega) (by omega) hok
    rcases h with ⟨_, h1, h2⟩ | ⟨h1, _⟩
    · exact ⟨h1.symm.trans (hd_E hl.2 (by omega)), h2.symm.trans (hd_S hl.2 (by omega))⟩
    · exact (head_no_img hP h1).elim
  · obtain ⟨a, b, d, _⟩ := im_all (hok m (List.mem_of_getElem? hm)) he hq
    rcases h with ⟨h1, _⟩ | ⟨_, h1, h2⟩
    · exact (head_no_img h1 a).elim
    · exact ⟨h1.symm.trans b, h2.symm.trans d⟩
/-! ### the sectors of records, one behind the other -/
def secs (e : Int) (rs : List Rc) : List (List UInt8) := rs.flatMap fun r => recB e r.seq r.ims
theorem secs_app (e : Int) (rs ss : List Rc) : secs e (rs ++ ss) = secs e rs ++ secs e ss := by simp [secs]
theorem secs_one (e : Int) (r : Rc) : secs e [r] = recB e r.seq r.ims := by simp [secs]
theorem recB_len (e q : Int) (ims : List Img) : (recB e q ims).length = 1 + ims.length := by simp [recB]; omega
theorem secs_split (e : Int) {rs : List Rc} {j : Nat} {r : Rc} (h : rs[j]? = some r) : secs e rs = secs e (rs.take j) ++ recB e r.seq r.ims ++ secs e (rs.drop (j + 1)) := by
  have hj := (List.getElem?_eq_some_iff.1 h).1
  have : rs = rs.take j ++ [r] ++ rs.drop (j + 1) := by
    rw [← (List.getElem?_eq_some_iff.1 h).2, List.take_append_getElem hj, List.take_append_drop]
  conv => lhs; rw [this]
  rw [secs_app, secs_app, secs_one]
theorem secs_mem {e : Int} {rs : List Rc} {c : List UInt8} (h : c ∈ secs e rs) : ∃ (j : Nat) (r : Rc) (p : Nat), rs[j]? = some r ∧ (recB e r.seq r.ims)[p]? = some c := by
  obtain ⟨r, hr, hc⟩ := List.mem_flatMap.1 h
  obtain ⟨j, hj⟩ := List.getElem?_of_mem hr
  obtain ⟨p, hp⟩ := List.getElem?_of_mem hc
  exact ⟨j, r, p, hj, hp⟩
/-! ### the log's place on its disk -/
/-- a sector holds c, or held it since it was made durable -/
def Has (D : Dsk) (n : Nat) (c : List UInt8) : Prop := c = D.dur n ∨ c ∈ D.ver n
/-- nothing of this epoch from this number on -/
def OldT (s : Sup) (c : List UInt8) : Prop := ∀ e q, Tg c e q → e < s.epoch ∨ (e = s.epoch ∧ q < s.seq)
structure PInv (D : Dsk) (s : Sup) (rs : List Rc) (pt : List (List UInt8)) (a q u : Int) (b : Bool) (sure : Nat) : Prop where
  fa : a = (s.head + u) % s.len
  fq : q = s.seq + rs.length + (if b then 1 else 0)
  fu : u = ((secs s.epoch rs).length : Int)
  ul : u ≤ s.len
  pb : b = false → pt = []
  part : pt = [] ∨ ∃ ims k, ((1 ≤ ims.length ∧ ims.length ≤ 40) ∧ (∀ m ∈ ims, m.Ok)) ∧ pt = (recB s.epoch (s.seq + rs.length) ims).take k ∧ k < 1 + ims.length ∧ u + (1 + (ims.length : Int)) ≤ s.len
  recs : ∀ (j : Nat) (r : Rc), rs[j]? = some r → r.seq = s.seq + j ∧ (1 ≤ r.ims.length ∧ r.ims.length ≤ 40) ∧ ∀ m ∈ r.ims, m.Ok
  old : ∀ i : Nat, (i : Int) < s.len → ∀ c, Has D (ringAt s (s.head + i)) c → OldT s c ∨ (secs s.epoch rs ++ pt)[i]? = some c
  last : ∀ (i : Nat) (c : List UInt8), (secs s.epoch rs ++ pt)[i]? = some c → D.cont (ringAt s (s.head + i)) = c
  dura : ∀ (i : Nat) (c : List UInt8), (secs s.epoch (rs.take sure))[i]? = some c → D.dur (ringAt s (s.head + i)) = c ∧ D.ver (ringAt s (s.head + i)) = []
  sure : sure ≤ rs.length
/-- what all superblocks of a law have -/
structure SOk (s : Sup) : Prop where
  start : 0 ≤ s.start
  head : 0 ≤ s.head ∧ s.head < s.len
  epoch : 0 ≤ s.epoch ∧ s.epoch < 4294967296
  seq : 0 ≤ s.seq
theorem PInv.f {D D' : Dsk} {s : Sup} {rs : List Rc} {pt : List (List UInt8)} {a q u : Int} {b : Bool} {sure : Nat} (h : PInv D s rs pt a q u b sure) (h1 : D'.dur = D.dur) (h2 : D'.ver = D.ver) : PInv D' s rs pt a q u b sure :=
  ⟨h.fa, h.fq, h.fu, h.ul, h.pb, h.part, h.recs, fun i hi c hc => h.old i hi c (by unfold Has at hc ⊢; rwa [h1, h2] at hc), fun i c hc => by have := h.last i c hc; unfold Dsk.cont at this ⊢; rw [h1, h2]; exact this,
    fun i c hc => by rw [h1, h2]; exact h.dura i c hc, h.sure⟩
theorem PInv.new {n : Nat} {s : Sup} (hs : SOk s) : PInv (newD n) s [] [] s.head s.seq 0 false 0 := by
  refine ⟨?_, by simp, by simp [secs], by have := hs.head; omega, fun _ => rfl, .inl rfl, fun j r h => by simp at h, fun i hi c hc => .inl fun e q ht => ?_, fun i c h => by simp [secs] at h, fun i c h => by simp [secs] at h, Nat.le_refl _⟩
  · rw [Int.add_zero, Int.emod_eq_of_lt hs.head.1 hs.head.2]
  · rcases hc with rfl | hc
    · exact (zero_tag _ _ ht).elim
    · cases hc
/-- each sector of the ring is one of its places -/
theorem ring_all {s : Sup} (hl : 0 < s.len) (h x : Int) : ∃ i : Nat, (i : Int) < s.len ∧ ringAt s x = ringAt s (h + i) := by
  have h1 := Int.emod_nonneg (x - h) (by omega : s.len ≠ 0)
  have h2 := Int.emod_lt_of_pos (x - h) hl
  refine ⟨((x - h) % s.len).toNat, by omega, ?_⟩
  unfold ringAt
  rw [Int.toNat_of_nonneg h1, Int.add_emod_emod]
  congr 3; omega
theorem PInv.tags {D : Dsk} {s : Sup} {rs : List Rc} {pt : List (List UInt8)} {a q u : Int} {b : Bool} {sure : Nat} (h : PInv D s rs pt a q u b sure) (hs : SOk s) (hq : q ≤ 1099511627776) {i : Nat} (hi : (i : Int) < s.len) {c : List UInt8} (hc : Has D (ringAt s (s.head + i)) c) {e' q' : Int} (ht : Tg c e' q') : e' < s.epoch ∨ (e' = s.epoch ∧ q' < q) := by
  have hqq := h.fq
  have hsq := hs.seq
  rcases h.old i hi c hc with g | g
  · rcases g _ _ ht with g | ⟨g1, g2⟩
    · exact .inl g
    · refine .inr ⟨g1, ?_⟩; split at hqq <;> omega
  · rcases List.mem_append.1 (List.mem_of_getElem? g) with g | g
    · obtain ⟨j, r, p, hj, hp⟩ := secs_mem g
      obtain ⟨h1, h2, h3⟩ := h.recs j r hj
      have hjl := (List.getElem?_eq_some_iff.1 hj).1
      have := tag_rec h2 h3 hs.epoch (by split at hqq <;> omega) hp ht
      exact .inr ⟨this.1, by split at hqq <;> omega⟩
    · rcases h.part with rfl | ⟨ims, k, ⟨h1, h2⟩, rfl, h3, _⟩
      · cases g
      · cases b with
        | false => have := h.pb rfl; rw [this] at g; cases g
        | true =>
          rw [if_pos rfl] at hqq
          obtain ⟨p, hp⟩ := List.getElem?_of_mem g
          rw [List.getElem?_take] at hp
          split at hp
          · have := tag_rec h1 h2 hs.epoch (by omega) hp ht
            exact .inr ⟨this.1, by omega⟩
          · cases hp
/-- the records are given up; the superblock tells of the tail -/
theorem PInv.drop {D : Dsk} {s : Sup} {rs : List Rc} {pt : List (List UInt8)} {a q u : Int} {b : Bool} {sure : Nat} (h : PInv D s rs pt a q u b sure) (hs : SOk s) (hq : q ≤ 1099511627776) {s' : Sup} (h1 : s'.start = s.start) (h2 : s'.len = s.len) (h3 : s'.epoch = s.epoch) (h4 : s'.head = a) (h5 : s'.seq = q) (h0 : 0 ≤ s'.len) (hh : 0 ≤ s'.head ∧ s'.head < s'.len) : PInv D s' [] [] a q 0 false 0 := by
  have hl : 0 < s.len := by have := hs.head; omega
  refine ⟨?_, by rw [h5]; simp, by simp [secs], by omega, fun _ => rfl, .inl rfl, fun j r h => by simp at h, fun i hi c hc => .inl fun e q ht => ?_, fun i c h => by simp [secs] at h, fun i c h => by simp [secs] at h, Nat.le_refl _⟩
  · rw [Int.add_zero, ← h4, Int.emod_eq_of_lt hh.1 hh.2]
  · have hr : ringAt s' (s'.head + i) = ringAt s (s'.head + i) := by unfold ringAt; rw [h1, h2]
    rw [hr] at hc
    obtain ⟨i', hi', he⟩ := ring_all hl s.head (s'.head + i)
    rw [he] at hc
    have := h.tags hs hq hi' hc ht
    rw [h3, h5]; exact this
/-- behind a crash: the next epoch -/
theorem PInv.crash {D D' : Dsk} {s : Sup} {rs : List Rc} {pt : List (List UInt8)} {a q u : Int} {b : Bool} {sure : Nat} (h : PInv D s rs pt a q u b sure) (hs : SOk s) (hq : q ≤ 1099511627776) (hD : ∀ n c, Has D' n c → Has D n c) {s' : Sup} (h1 : s'.start = s.start) (h2 : s'.len = s.len) (h3 : s'.epoch = s.epoch + 1) (hh : 0 ≤ s'.head ∧ s'.head < s'.len) : PInv D' s' [] [] s'.head s'.seq 0 false 0 := by
  have hl : 0 < s.len := by have := hs.head; omega
  refine ⟨?_, by simp, by simp [secs], by omega, fun _ => rfl, .inl rfl, fun j r h => by simp at h, fun i hi c hc => .inl fun e q ht => ?_, fun i c h => by simp [secs] at h, fun i c h => by simp [secs] at h, Nat.le_refl _⟩
  · rw [Int.add_zero, Int.emod_eq_of_lt hh.1 hh.2]
  · have hc := hD _ _ hc
    have hr : ringAt s' (s'.head + i) = ringAt s (s'.head + i) := by unfold ringAt; rw [h1, h2]
    rw [hr] at hc
    obtain ⟨i', hi', he⟩ := ring_all hl s.head (s'.head + i)
    rw [he] at hc
    have := h.tags hs hq hi' hc ht
    omega
/-! ### flushing -/
def Dsk.fl (D : Dsk) : Dsk := { D with dur := D.cont, ver := fun _ => [], f3 := tick D.f3, left := max 0 (D.left - 1) }
theorem fl_cont (D : Dsk) (n : Nat) : D.fl.cont n = D.cont n := rfl
theorem cont_has (D : Dsk) (n : Nat) : Has D n (D.cont n) := by
  unfold Has Dsk.cont
  cases hl : (D.ver n).getLast? with
  | none => exact .inl rfl
  | some p => exact .inr (List.mem_of_getLast? hl)
theorem fl_has {D : Dsk} {n : Nat} {c : List UInt8} (h : Has D.fl n c) : Has D n c := by
  rcases h with rfl | h
  · exact cont_has D n
  · cases h
theorem PInv.flush {D : Dsk} {s : Sup} {rs : List Rc} {pt : List (List UInt8)} {a q u : Int} {b : Bool} {sure : Nat} (h : PInv D s rs pt a q u b sure) : PInv D.fl s rs pt a q u b rs.length :=
  ⟨h.fa, h.fq, h.fu, h.ul, h.pb, h.part, h.recs, fun i hi c hc => h.old i hi c (fl_has hc), fun i c hc => h.last i c hc,
    fun i c hc => ⟨h.last i c (by rw [List.take_length] at hc; rw [List.getElem?_append_left (List.getElem?_eq_some_iff.1 hc).1]; exact hc), rfl⟩, Nat.le_refl _⟩
/-! ### appending -/
theorem ws_dur (ps : List (List UInt8)) : ∀ (D : Dsk) (x : Nat), (D.ws false x ps).dur = D.dur := by
  induction ps with
  | nil => intro D x; rfl
  | cons p ps ih => intro D x; simp only [Dsk.ws]; rw [ih]; rfl
theorem ws_mem (ps : List (List UInt8)) : ∀ (D : Dsk) (x i : Nat) (c : List UInt8), c ∈ (D.ws false x ps).ver i → c ∈ D.ver i ∨ (x ≤ i ∧ ps[i - x]? = some c) := by
  induction ps with
  | nil => intro D x i c h; exact .inl h
  | cons p ps ih =>
    intro D x i c h
    simp only [Dsk.ws] at h
    rcases ih _ _ _ _ h with h | ⟨h1, h2⟩
    · have h : c ∈ (upf D.ver x (D.ver x ++ [p])) i := h
      unfold upf at h
      split at h
      · rename_i e; subst e
        rcases List.mem_append.1 h with h | h
        · exact .inl h
        · simp at h; subst h; exact .inr ⟨Nat.le_refl _, by simp⟩
      · exact .inl h
    · exact .inr ⟨by omega, by rw [show i - x = (i - (x + 1)) + 1 from by omega, List.getElem?_cons_succ]; exact h2⟩
theorem wr_has {D : Dsk} {x i : Nat} {ps : List (List UInt8)} {c : List UInt8} (h : Has (D.wr x ps) i c) : Has D i c ∨ (x ≤ i ∧ ps[i - x]? = some c) := by
  rcases h with rfl | h
  · exact .inl (.inl (congrFun (ws_dur ps { D with f2 := tick D.f2 } x) i))
  · rcases ws_mem ps { D with f2 := tick D.f2 } x i c h with h | h
    · exact .inl (.inr h)
    · exact .inr h
theorem app_has {D : Dsk} {s : Sup} {a : Int} {k : Nat} {ps : List (List UInt8)} (hs : 0 ≤ s.start) (ha : 0 ≤ a ∧ a < s.len) (hl : (ps.length : Int) ≤ s.len) (hk : (k : Int) = min (ps.length : Int) (s.len - a)) {n : Nat} {c : List UInt8} (h : Has (appD D s a k ps) n c) : Has D n c ∨ ∃ j : Nat, ps[j]? = some c ∧ n = ringAt s (a + j) := by
  have one : ∀ {n : Nat} {c : List UInt8}, Has (D.wr (s.start + a).toNat (ps.take k)) n c → Has D n c ∨ ∃ j : Nat, ps[j]? = some c ∧ n = ringAt s (a + j) := fun {n c} h => by
    rcases wr_has h with h | ⟨h1, h2⟩
    · exact .inl h
    · rw [List.getElem?_take] at h2
      split at h2
      · exact .inr ⟨_, h2, by rw [ring_low hs ha.1 (by omega)]; omega⟩
      · cases h2
  unfold appD at h
  split at h
  · rcases wr_has h with h | ⟨h1, h2⟩
    · exact one h
    · rw [List.getElem?_drop] at h2
      have hlt := (List.getElem?_eq_some_iff.1 h2).1
      exact .inr ⟨_, h2, by rw [ring_high hs (by omega) (by omega)]; omega⟩
  · exact one h
theorem wr_out' (D : Dsk) (x : Nat) (ps : List (List UInt8)) (j : Nat) (h : j < x ∨ x + ps.length ≤ j) : (D.wr x ps).ver j = D.ver j := Dsk.ws_ver false ps { D with f2 := tick D.f2 } x j h
theorem app_ver_out {D : Dsk} {s : Sup} {a : Int} {k : Nat} {ps : List (List UInt8)} (hs : 0 ≤ s.start) (ha : 0 ≤ a ∧ a < s.len) (hl : (ps.length : Int) ≤ s.len) (hk : (k : Int) = min (ps.length : Int) (s.len - a)) {i : Nat} (hi : ∀ j : Nat, j < ps.length → i ≠ ringAt s (a + j)) : (appD D s a k ps).ver i = D.ver i := by
  have h1 : (D.wr (s.start + a).toNat (ps.take k)).ver i = D.ver i := by
    refine wr_out' _ _ _ _ ?_
    rw [List.length_take]
    rcases Nat.lt_or_ge i (s.start + a).toNat with g | g
    · exact .inl g
    · rcases Nat.lt_or_ge (i - (s.start + a).toNat) (min k ps.length) with q | q
      · exact absurd (by rw [ring_low hs ha.1 (by omega)]; omega) (hi (i - (s.start + a).toNat) (by omega))
      · exact .inr (by omega)
  unfold appD
  split
  · refine (wr_out' _ _ _ _ ?_).trans h1
    rw [List.length_drop]
    rcases Nat.lt_or_ge i s.start.toNat with g | g
    · exact .inl g
    · rcases Nat.lt_or_ge (i - s.start.toNat) (ps.length - k) with q | q
      · exact absurd (by rw [ring_high hs (by omega) (by omega)]; omega) (hi (k + (i - s.start.toNat)) (by omega))
      · exact .inr (by omega)
  · exact h1
theorem PInv.at_ok {D : Dsk} {s : Sup} {rs : List Rc} {pt : List (List UInt8)} {a q u : Int} {b : Bool} {sure : Nat} (h : PInv D s rs pt a q u b sure) (hs : SOk s) : 0 ≤ a ∧ a < s.len := by
  have := hs.head
  rw [h.fa]; exact ⟨Int.emod_nonneg _ (by omega), Int.emod_lt_of_pos _ (by omega)⟩
theorem PInv.ring {D : Dsk} {s : Sup} {rs : List Rc} {pt : List (List UInt8)} {a q u : Int} {b : Bool} {sure : Nat} (h : PInv D s rs pt a q u b sure) (j : Nat) : ringAt s (a + j) = ringAt s (s.head + (((secs s.epoch rs).length + j : Nat) : Int)) := by
  have hu := h.fu
  rw [h.fa, ring_mod]; congr 1; omega
theorem PInv.app {D : Dsk} {s : Sup} {rs : List Rc} {pt : List (List UInt8)} {a q u : Int} {sure : Nat} (h : PInv D s rs pt a q u false sure) (hs : SOk s) {k : Nat} (hl : 1 ≤ ims.length ∧ ims.length ≤ 40) (hok : ∀ m ∈ ims, m.Ok) (hr : 1 + (ims.length : Int) ≤ s.len - u) (hk : (k : Int) = min (1 + (ims.length : Int)) (s.len - a)) :
    PInv (appD D s a k (recB s.epoch q ims)) s (rs ++ [⟨q, ims⟩]) [] ((a + (1 + (ims.length : Int))) % s.len) (q + 1) (u + (1 + (ims.length : Int))) false sure := by
  obtain rfl := h.pb rfl
  have ha := h.at_ok hs
  have hu := h.fu
  have hq := h.fq
  rw [if_neg (by decide)] at hq
  have hpl := recB_len s.epoch q ims
  have hk' : (k : Int) = min ((recB s.epoch q ims).length : Int) (s.len - a) := by rw [hpl]; omega
  have hsl : (secs s.epoch (rs ++ [⟨q, ims⟩])) = secs s.epoch rs ++ recB s.epoch q ims := by rw [secs_app, secs_one]
  have hfar : ∀ i : Nat, (i : Int) < s.len → i < (secs s.epoch rs).length → ∀ j : Nat, j < (recB s.epoch q ims).length → ringAt s (s.head + i) ≠ ringAt s (a + j) := fun i hi hi2 j hj e => by
    rw [h.ring] at e
    have := ring_inj hs.start hs.head hi (by omega) e
    omega
  refine ⟨?_, by simp; omega, by rw [hsl, List.length_append, hpl]; omega, by omega, fun _ => rfl, .inl rfl, fun j r hj => ?_, fun i hi c hc => ?_, fun i c hc => ?_, fun i c hc => ?_, by have := h.sure; simp; omega⟩
  · rw [h.fa, Int.emod_add_emod, Int.add_assoc]
  · rcases Nat.lt_or_ge j rs.length with g | g
    · rw [List.getElem?_append_left g] at hj; exact h.recs j r hj
    · rw [List.getElem?_append_right g] at hj
      have : j = rs.length := by have := (List.getElem?_eq_some_iff.1 hj).1; simp at this; omega
      subst this
      simp at hj; subst hj
      exact ⟨by dsimp only; omega, hl, hok⟩
  · rw [List.append_nil, hsl]
    rcases app_has hs.start ha (by omega) hk' hc with hc | ⟨j, hj, hn⟩
    · rcases h.old i hi c hc with g | g
      · exact .inl g
      · rw [List.append_nil] at g
        exact .inr (by rw [List.getElem?_append_left (List.getElem?_eq_some_iff.1 g).1]; exact g)
    · have hjl := (List.getElem?_eq_some_iff.1 hj).1
      rw [h.ring] at hn
      have := ring_inj hs.start hs.head hi (by omega) hn
      subst this
      exact .inr (by rw [List.getElem?_append_right (by omega), Nat.add_sub_cancel_left]; exact hj)
  · rw [List.append_nil, hsl] at hc
    rcases Nat.lt_or_ge i (secs s.epoch rs).length with g | g
    · rw [List.getElem?_append_left g] at hc
      rw [app_old hs.start ha (by omega) hk' (hfar i (by omega) g)]
      exact h.last i c (by rw [List.append_nil]; exact hc)
    · rw [List.getElem?_append_right g] at hc
      have := app_new (D := D) hs.start ha (by omega) hk' hc
      rw [h.ring, show (secs s.epoch rs).length + (i - (secs s.epoch rs).length) = i from by omega] at this
      exact this
  · rw [List.take_append_of_le_length h.sure] at hc
    have hil : i < (secs s.epoch rs).length := by
      have h1 := (List.getElem?_eq_some_iff.1 hc).1
      have h2 : (secs s.epoch rs).length = (secs s.epoch (rs.take sure)).length + (secs s.epoch (rs.drop sure)).length := by
        rw [← List.length_append, ← secs_app, List.take_append_drop]
      omega
    obtain ⟨h1, h2⟩ := h.dura i c hc
    have key : ∀ c', Has (appD D s a k (recB s.epoch q ims)) (ringAt s (s.head + i)) c' → Has D (ringAt s (s.head + i)) c' := fun c' hc' => by
      rcases app_has hs.start ha (by omega) hk' hc' with g | ⟨j, hj, hn⟩
      · exact g
      · exact (hfar i (by omega) hil j (List.getElem?_eq_some_iff.1 hj).1 hn).elim
    have hd : (appD D s a k (recB s.epoch q ims)).dur = D.dur := by
      unfold appD; split
      · exact (ws_dur _ _ _).trans (ws_dur _ { D with f2 := tick D.f2 } _)
      · exact ws_dur _ { D with f2 := tick D.f2 } _
    refine ⟨by rw [hd]; exact h1, ?_⟩
    have hno := app_ver_out (D := D) hs.start ha (by omega) hk' (hfar i (by omega) hil)
    rw [hno]; exact h2
end Go.Proofs.YtanejicgmgpjcaaGreatDoor
