/-
  Plain data of the store's layers: superblocks, sectors, images, records. No condition.
-/
import Derived.Test.YtanejicgmgpjcaaGreatDoorCoreV
namespace Go.Proofs.YtanejicgmgpjcaaGreatDoor

/-- a superblock -/
structure Sup where
  gen : Int
  epoch : Int
  pages : Int
  start : Int
  len : Int
  head : Int
  seq : Int
def Sup.list (s : Sup) : List Int := [s.gen, s.epoch, s.pages, s.start, s.len, s.head, s.seq]
def Sup.cells (s : Sup) : List Value := [.int .i64 s.gen, .int .i64 s.epoch, .int .i64 s.pages, .int .i64 s.start, .int .i64 s.len, .int .i64 s.head, .int .i64 s.seq]
def Sup.Ok (s : Sup) (n : Int) : Prop := (∀ x ∈ s.list, 0 ≤ x ∧ x ≤ 1099511627776) ∧ 16 ≤ s.pages ∧ s.pages ≤ 1024 ∧ 2 + s.pages ≤ s.start ∧ 64 ≤ s.len ∧ s.start ≤ n - s.len ∧ s.len ≤ n ∧ s.head < s.len
instance (s : Sup) (n : Int) : Decidable (s.Ok n) := by unfold Sup.Ok; exact inferInstance
theorem Sup.get {s : Sup} {n : Int} (h : s.Ok n) : (0 ≤ s.gen ∧ s.gen ≤ 1099511627776) ∧ (0 ≤ s.epoch ∧ s.epoch ≤ 1099511627776) ∧ (0 ≤ s.pages ∧ s.pages ≤ 1099511627776) ∧ (0 ≤ s.start ∧ s.start ≤ 1099511627776) ∧ (0 ≤ s.len ∧ s.len ≤ 1099511627776) ∧ (0 ≤ s.head ∧ s.head ≤ 1099511627776) ∧ (0 ≤ s.seq ∧ s.seq ≤ 1099511627776) := by
  have := h.1
  simpa [Sup.list] using this

/-! ### a disk -/
/-- sectors: what is durable, and the versions written since; what is to fail -/
structure Dsk where
  n : Nat
  dur : Nat → List UInt8
  ver : Nat → List (List UInt8)
  f1 : Int
  f2 : Int
  f3 : Int
  cut : Bool
  left : Int
/-- what a sector reads as -/
def Dsk.cont (D : Dsk) (i : Nat) : List UInt8 := (D.ver i).getLast?.getD (D.dur i)
/-- one turn nearer to failing -/
def tick (f : Int) : Int := if f = 0 then 0 else f - 1
/-- an entry of the versions -/
structure Ent where
  key : Nat
  v : Value
  pvs : List Value
  ps : List (List UInt8)
  born : Nat
def Ent.ie (e : Ent) : IE := ((e.key : Int), e.v, e.born)
def Ent.row (e : Ent) : Asn := grow 70 1 e.v e.pvs.length e.pvs
def Ent.Ok (hq : Hp) (e : Ent) : Prop := e.pvs.length = e.ps.length ∧ e.ps ≠ [] ∧ ∀ (j : Nat) (pv : Value) (p : List UInt8), e.pvs[j]? = some pv → e.ps[j]? = some p → p.length = 256 ∧ rdH 1 pv 256 (p.map u8) hq
def poolA (hq : Hp) : Asn := fun h => subH hq h
structure Dsk.Ok (D : Dsk) : Prop where
  n1 : 1 ≤ D.n
  n2 : D.n ≤ 4096
  dur : ∀ i, i < D.n → (D.dur i).length = 256
  ver : ∀ i, i < D.n → ∀ p ∈ D.ver i, p.length = 256
  f1 : 0 ≤ D.f1 ∧ D.f1 ≤ 1099511627776
  f2 : 0 ≤ D.f2 ∧ D.f2 ≤ 1099511627776
  f3 : 0 ≤ D.f3 ∧ D.f3 ≤ 1099511627776
  left : 0 ≤ D.left ∧ D.left ≤ 1099511627776
/-- how it lies in memory: bs: the durable bytes; es: the versions' entries -/
structure Dsk.In (D : Dsk) (bs : List UInt8) (es : List Ent) (clk : Nat) (hq : Hp) : Prop where
  len : bs.length = D.n * 256
  own : ∀ i, i < D.n → (bs.drop (i * 256)).take 256 = D.dur i
  ent : ∀ e ∈ es, e.key < D.n ∧ e.ps = D.ver e.key ∧ e.Ok hq
  all : ∀ i, i < D.n → D.ver i ≠ [] → ∃ e ∈ es, e.key = i
  nodup : (es.map Ent.key).Nodup
  born : (es.map Ent.born).Nodup
  clk : ∀ e ∈ es, e.born < clk
def diskB (pd bd m : Nat) (D : Dsk) (f0 : Int) (bs : List UInt8) (es : List Ent) (clk : Nat) (hq : Hp) : List Asn :=
  [blk pd [.slice (some ⟨bd, 0, none⟩) (D.n * 256) (D.n * 256), .map (some m), .int .i64 f0, .int .i64 D.f1, .int .i64 D.f2, .int .i64 D.f3, .bool D.cut, .int .i64 D.left] 74,
   blk bd (bs.map u8) 5, mapB m (es.map Ent.ie) clk, poolA hq, seps (es.map Ent.row)]
def diskA (pd : Nat) (D : Dsk) : Asn := fun h => ∃ (bd m : Nat) (f0 : Int) (bs : List UInt8) (es : List Ent) (clk : Nat) (hq : Hp), (D.Ok ∧ D.In bs es clk hq) ∧ seps (diskB pd bd m D f0 bs es clk hq) h
theorem diskA.ok {pd : Nat} {D : Dsk} {h : Hp} (a : diskA pd D h) : D.Ok := by
  obtain ⟨_, _, _, _, _, _, _, hp, _⟩ := a; exact hp.1
structure DskX where
  bd : Nat
  m : Nat
  f0 : Int
  bs : List UInt8
  es : List Ent
  clk : Nat
  hq : Hp
theorem Sep.disk {z w : World} {Γ : List Asn} {pd : Nat} {D : Dsk} (H : Sep z (diskA pd D :: Γ) w) : ∃ bd m f0 bs es clk hq, D.Ok ∧ D.In bs es clk hq ∧ Sep z (diskB pd bd m D f0 bs es clk hq ++ Γ) w := by
  obtain ⟨x, ⟨h1, h2⟩, H⟩ := H.into (σ := DskX) (p := fun x => D.Ok ∧ D.In x.bs x.es x.clk x.hq) (As := fun x => diskB pd x.bd x.m D x.f0 x.bs x.es x.clk x.hq)
    (fun h a => by obtain ⟨bd, m, f0, bs, es, clk, hq, hp, hs⟩ := a; exact ⟨⟨bd, m, f0, bs, es, clk, hq⟩, hp, hs⟩)
  exact ⟨_, _, _, _, _, _, _, h1, h2, H⟩
theorem Sep.toDisk {z w : World} {Γ : List Asn} {pd bd m : Nat} {D : Dsk} {f0 : Int} {bs : List UInt8} {es : List Ent} {clk : Nat} {hq : Hp} (H : Sep z (diskB pd bd m D f0 bs es clk hq ++ Γ) w) (h1 : D.Ok) (h2 : D.In bs es clk hq) : Sep z (diskA pd D :: Γ) w :=
  H.shut.mono 0 rfl (fun h a => ⟨_, _, _, _, _, _, _, ⟨h1, h2⟩, a⟩)
/-- an entry is found -/
theorem get_ent : ∀ (es : List Ent) (k : Nat), (es.map Ent.key).Nodup → (getM (es.map Ent.ie) (k : Int) = none ∧ ∀ e ∈ es, e.key ≠ k) ∨ ∃ (i : Nat) (e : Ent), es[i]? = some e ∧ e.key = k ∧ getM (es.map Ent.ie) (k : Int) = some e.v
  | [], k, _ => .inl ⟨rfl, fun e h => by cases h⟩
  | e :: es, k, hn => by
    simp only [List.map_cons, List.nodup_cons] at hn
    simp only [List.map_cons, getM, Ent.ie]
    by_cases q : (k : Int) = (e.key : Int)
    · exact .inr ⟨0, e, rfl, by omega, by rw [if_pos q]⟩
    · rw [if_neg q]
      rcases get_ent es k hn.2 with ⟨h1, h2⟩ | ⟨i, e', h1, h2, h3⟩
      · exact .inl ⟨h1, fun e' h => by
          rcases List.mem_cons.1 h with rfl | h
          · intro q'; exact q (by rw [q'])
          · exact h2 e' h⟩
      · exact .inr ⟨i + 1, e', by simpa using h1, h2, h3⟩

theorem Rd.at {sz : Nat} {ao : Option Addr} {n c : Nat} {xs : List Value} {w : World} {u : Value} {j : Nat} (r : Rd sz (.slice ao n c) n xs w) (h : xs[j]? = some u) : At ao j u w := by
  obtain ⟨ao', c', e, _, _, _, h4⟩ := r
  cases e
  exact h4 j u h
theorem seps_mem {As : List Asn} {h : Hp} (hs : seps As h) {i : Nat} {A : Asn} (hi : As[i]? = some A) : ∃ h', A h' ∧ subH h' h := by
  obtain ⟨own, ho⟩ := hs
  exact ⟨_, ho i A hi, fun k o e => (part_some e).2⟩
/-- a sector's versions, as they lie -/
theorem row_of {D : Dsk} {bs : List UInt8} {es : List Ent} {clk : Nat} {hq : Hp} (hI : D.In bs es clk hq) {k : Nat} (hk : k < D.n) :
    ∃ v pvs, (getM (es.map Ent.ie) (k : Int)).getD (.slice none 0 0) = v ∧ pvs.length = (D.ver k).length ∧ (∀ h, seps (es.map Ent.row) h → rdH 1 v pvs.length pvs h) ∧
      (∀ (j : Nat) (pv : Value) (p : List UInt8), pvs[j]? = some pv → (D.ver k)[j]? = some p → ∀ h, poolA hq h → rdH 1 pv 256 (p.map u8) h) := by
  rcases get_ent es k hI.nodup with ⟨hg, hn⟩ | ⟨i, e, hi, he, hg⟩
  · have hv : D.ver k = [] := by
      cases hvk : D.ver k with
      | nil => rfl
      | cons p ps =>
        obtain ⟨e, he, hek⟩ := hI.all k hk (by rw [hvk]; simp)
        exact absurd hek (hn e he)
    exact ⟨.slice none 0 0, [], by simp [hg], by rw [hv]; rfl, fun h _ => rdH.nil 1 h, fun j pv p h => by simp at h⟩
  · obtain ⟨_, h2, h3, h4, h5⟩ := hI.ent e (List.mem_of_getElem? hi)
    subst he
    refine ⟨e.v, e.pvs, by simp [hg], h3.trans (congrArg _ h2), fun h hs => ?_, fun j pv p hj hp h hh => ((h5 j pv p hj (by rw [h2]; exact hp)).2).le hh⟩
    obtain ⟨h', hA, hsub⟩ := seps_mem hs (i := i) (A := e.row) (by rw [List.getElem?_map, hi]; rfl)
    exact (grow.rd hA).le hsub
/-- the sector while it is read -/
def rdSt (D : Dsk) (k : Nat) : Nat → List UInt8
  | 0 => D.dur k
  | _ + 1 => D.cont k
theorem cont_nil {D : Dsk} {k : Nat} (h : D.ver k = []) : D.cont k = D.dur k := by simp [Dsk.cont, h]
theorem cont_last {D : Dsk} {k n : Nat} {p : List UInt8} (hl : n = (D.ver k).length) (h : (D.ver k)[n - 1]? = some p) : D.cont k = p := by
  subst hl
  simp [Dsk.cont, List.getLast?_eq_getElem?, h]
theorem Dsk.In.f {D : Dsk} {bs : List UInt8} {es : List Ent} {clk : Nat} {hq : Hp} (h : D.In bs es clk hq) (a b c : Int) (d : Bool) (e : Int) : Dsk.In { D with f1 := a, f2 := b, f3 := c, cut := d, left := e } bs es clk hq :=
  ⟨h.len, h.own, h.ent, h.all, h.nodup, h.born, h.clk⟩
theorem Dsk.Ok.f {D : Dsk} (h : D.Ok) {a b c e : Int} {d : Bool} (ha : 0 ≤ a ∧ a ≤ 1099511627776) (hb : 0 ≤ b ∧ b ≤ 1099511627776) (hc : 0 ≤ c ∧ c ≤ 1099511627776) (he : 0 ≤ e ∧ e ≤ 1099511627776) : Dsk.Ok { D with f1 := a, f2 := b, f3 := c, cut := d, left := e } :=
  ⟨h.n1, h.n2, h.dur, h.ver, ha, hb, hc, he⟩
theorem tick_in {f : Int} (h : 0 ≤ f ∧ f ≤ 1099511627776) : 0 ≤ tick f ∧ tick f ≤ 1099511627776 := by unfold tick; split <;> omega
theorem Dsk.cont_len {D : Dsk} (h : D.Ok) {i : Nat} (hi : i < D.n) : (D.cont i).length = 256 := by
  unfold Dsk.cont
  cases hl : (D.ver i).getLast? with
  | none => exact h.dur i hi
  | some p => exact h.ver i hi p (List.mem_of_getLast? hl)
end Go.Proofs.YtanejicgmgpjcaaGreatDoor
