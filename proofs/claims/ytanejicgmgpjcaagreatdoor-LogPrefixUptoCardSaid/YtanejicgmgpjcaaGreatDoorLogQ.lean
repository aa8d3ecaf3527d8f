/-
  Memory that is only read: a pool; images and records as they lie in it. No condition.
-/
import Derived.Test.YtanejicgmgpjcaaGreatDoorLogN
import Derived.Test.YtanejicgmgpjcaaGreatDoorLogP
import Derived.Test.YtanejicgmgpjcaaGreatDoorCoreW
set_option maxRecDepth 100000
namespace Go.Proofs.YtanejicgmgpjcaaGreatDoor

theorem pool0 {z w : World} {Γ : List Asn} (H : Sep z Γ w) : Sep z (poolA (fun _ => none) :: Γ) w := H.void fun h k o e => by cases e
/-- a part joins the pool, with what is known of it -/
theorem pool_any {z w : World} {Γ : List Asn} {hq : Hp} {X : Asn} (H : Sep z (poolA hq :: X :: Γ) w) {M : Asn} (hX : ∀ h, X h → M h) (hM : ∀ h h', M h → subH h h' → M h') : ∃ hq2, (subH hq hq2 ∧ M hq2) ∧ Sep z (poolA hq2 :: Γ) w := by
  have H1 : Sep z (seps [poolA hq, X] :: Γ) w := Sep.shut (As := [poolA hq, X]) H
  exact H1.exAt 0 (σ := Hp) (p := fun hq2 => subH hq hq2 ∧ M hq2) (B := fun hq2 => poolA hq2) rfl (fun h hs => by
    refine ⟨h, ⟨fun k o e => ?_, ?_⟩, fun k o e => e⟩
    · obtain ⟨h', h1, h2⟩ := seps_mem hs (i := 0) rfl
      exact h2 _ _ (h1 _ _ e)
    · obtain ⟨h', h1, h2⟩ := seps_mem hs (i := 1) rfl
      exact hM _ _ (hX _ h1) h2)
theorem pool_rd {z w : World} {Γ : List Asn} {hq : Hp} {X : Asn} (H : Sep z (poolA hq :: X :: Γ) w) {sz n : Nat} {v : Value} {xs : List Value} (hX : ∀ h, X h → rdH sz v n xs h) : ∃ hq2, (subH hq hq2 ∧ rdH sz v n xs hq2) ∧ Sep z (poolA hq2 :: Γ) w :=
  pool_any H hX (fun _ _ a b => a.le b)
theorem poolA.le {hq h : Hp} (a : poolA hq h) : subH hq h := a

/-! ### images -/
structure Img where
  num : Int
  kind : Int
  body : List UInt8
deriving DecidableEq
def Img.Ok (m : Img) : Prop := (0 ≤ m.num ∧ m.num ≤ 1023) ∧ (1 ≤ m.kind ∧ m.kind ≤ 5) ∧ m.body.length = 240
instance (m : Img) : Decidable m.Ok := by unfold Img.Ok; exact inferInstance
abbrev ImE := Img × Value
def ImE.cells (e : ImE) : List Value := [.int .i64 e.1.num, .int .i64 e.1.kind, e.2]
def imC (es : List ImE) : List Value := es.flatMap ImE.cells
theorem imC_len (es : List ImE) : (imC es).length = es.length * 3 := by
  induction es with
  | nil => rfl
  | cons e es ih => simp only [imC, List.flatMap_cons, List.length_append] at ih ⊢; rw [ih]; simp [ImE.cells]; omega
theorem imC_get : ∀ {es : List ImE} {j : Nat} {e : ImE}, es[j]? = some e → ∀ k u, (ImE.cells e)[k]? = some u → (imC es)[j * 3 + k]? = some u
  | x :: es, 0, e, h, k, u, hk => by
    simp at h; subst h
    have hl := (List.getElem?_eq_some_iff.1 hk).1
    simp only [imC, List.flatMap_cons]
    rw [List.getElem?_append_left (by omega)]; simpa using hk
  | x :: es, j + 1, e, h, k, u, hk => by
    have := imC_get (es := es) (j := j) (by simpa using h) k u hk
    simp only [imC, List.flatMap_cons] at this ⊢
    rw [List.getElem?_append_right (by simp [ImE.cells]; omega)]
    rw [show (j + 1) * 3 + k - (ImE.cells x).length = j * 3 + k from by simp [ImE.cells]; omega]
    exact this
theorem imC_snoc (es : List ImE) (e : ImE) : imC es ++ ImE.cells e = imC (es ++ [e]) := by simp [imC]
def imesOk (es : List ImE) (h : Hp) : Prop := ∀ e ∈ es, rdH 1 e.2 e.1.body.length (e.1.body.map u8) h
theorem imesOk.le {es : List ImE} {h h' : Hp} (a : imesOk es h) (s : subH h h') : imesOk es h' := fun e he => (a e he).le s
/-- a slice that reads as images -/
def imgsH (v : Value) (ims : List Img) : Asn := fun h => ∃ es : List ImE, es.map Prod.fst = ims ∧ rdH 3 v ims.length (imC es) h ∧ imesOk es h
theorem imgsH.le {v : Value} {ims : List Img} {h h' : Hp} (a : imgsH v ims h) (s : subH h h') : imgsH v ims h' := by
  obtain ⟨es, h1, h2, h3⟩ := a
  exact ⟨es, h1, h2.le s, h3.le s⟩
theorem imgsH.slc {v : Value} {ims : List Img} {h : Hp} (a : imgsH v ims h) : ∃ ao c, v = .slice ao ims.length c := by
  obtain ⟨es, h1, h2, h3⟩ := a; exact h2.slc
theorem imgsH.small {v : Value} {ims : List Img} {h : Hp} (a : imgsH v ims h) : ims.length ≤ 9223372036854775807 := by
  obtain ⟨es, h1, h2, h3⟩ := a; exact h2.small

/-! ### records -/
structure Rc where
  seq : Int
  ims : List Img
deriving DecidableEq
abbrev RcE := Rc × Value
def RcE.cells (e : RcE) : List Value := [.int .i64 e.1.seq, e.2]
def rcC (es : List RcE) : List Value := es.flatMap RcE.cells
theorem rcC_len (es : List RcE) : (rcC es).length = es.length * 2 := by
  induction es with
  | nil => rfl
  | cons e es ih => simp only [rcC, List.flatMap_cons, List.length_append] at ih ⊢; rw [ih]; simp [RcE.cells]; omega
theorem rcC_get : ∀ {es : List RcE} {j : Nat} {e : RcE}, es[j]? = some e → ∀ k u, (RcE.cells e)[k]? = some u → (rcC es)[j * 2 + k]? = some u
  | x :: es, 0, e, h, k, u, hk => by
    simp at h; subst h
    have hl := (List.getElem?_eq_some_iff.1 hk).1
    simp only [rcC, List.flatMap_cons]
    rw [List.getElem?_append_left (by omega)]; simpa using hk
  | x :: es, j + 1, e, h, k, u, hk => by
    have := rcC_get (es := es) (j := j) (by simpa using h) k u hk
    simp only [rcC, List.flatMap_cons] at this ⊢
    rw [List.getElem?_append_right (by simp [RcE.cells]; omega)]
    rw [show (j + 1) * 2 + k - (RcE.cells x).length = j * 2 + k from by simp [RcE.cells]; omega]
    exact this
theorem rcC_snoc (es : List RcE) (e : RcE) : rcC es ++ RcE.cells e = rcC (es ++ [e]) := by simp [rcC]
def rcesOk (es : List RcE) (h : Hp) : Prop := ∀ e ∈ es, imgsH e.2 e.1.ims h
theorem rcesOk.le {es : List RcE} {h h' : Hp} (a : rcesOk es h) (s : subH h h') : rcesOk es h' := fun e he => (a e he).le s
def recsH (v : Value) (rs : List Rc) : Asn := fun h => ∃ es : List RcE, es.map Prod.fst = rs ∧ rdH 2 v rs.length (rcC es) h ∧ rcesOk es h
theorem recsH.le {v : Value} {rs : List Rc} {h h' : Hp} (a : recsH v rs h) (s : subH h h') : recsH v rs h' := by
  obtain ⟨es, h1, h2, h3⟩ := a
  exact ⟨es, h1, h2.le s, h3.le s⟩
theorem recsH.slc {v : Value} {rs : List Rc} {h : Hp} (a : recsH v rs h) : ∃ ao c, v = .slice ao rs.length c := by
  obtain ⟨es, h1, h2, h3⟩ := a; exact h2.slc

/-! ### a log's record, read -/
def headE (sec : List UInt8) : Int := getI ((sec.drop 4).take 8)
def headS (sec : List UInt8) : Int := getI ((sec.drop 12).take 8)
def headU (sec : List UInt8) : UInt32 := w32 (getI ((sec.drop 20).take 4))
def imgX (sec : List UInt8) : Int := getI ((sec.drop 3).take 4)
def imgY (sec : List UInt8) : Int := getI ((sec.drop 7).take 5)
def imgOf (sec : List UInt8) : Img := ⟨getI ((sec.drop 1).take 2), getI (sec.take 1), (sec.drop 12).take 240⟩
/-- the sector of number j from a place in the ring -/
def ringAt (s : Sup) (x : Int) : Nat := (s.start + x % s.len).toNat
/-- what is read at a place: a record's images -/
def nextP (f : Nat → List UInt8) (e sq room : Int) (ims : List Img) : Prop :=
  headP (f 0) ∧ headE (f 0) = e ∧ headS (f 0) = sq ∧ 1 + (hCnt (f 0) : Int) ≤ room ∧
  ims = (List.range (hCnt (f 0))).map (fun j => imgOf (f (1 + j))) ∧
  (∀ j, j < hCnt (f 0) → imgP (f (1 + j)) ∧ imgX (f (1 + j)) = e ∧ imgY (f (1 + j)) = sq ∧ (imgOf (f (1 + j))).num = hNum (f 0) j) ∧
  crcSum ((List.range (hCnt (f 0))).flatMap fun j => f (1 + j)) = headU (f 0)
theorem rdH.sl {sz : Nat} {v : Value} {n : Nat} {xs : List Value} {h : Hp} (r : rdH sz v n xs h) (hne : 0 < xs.length) : ∃ b o c, v = .slice (some ⟨b, o, none⟩) n c := by
  obtain ⟨ao, c, e, _, _, _, h4⟩ := r
  obtain ⟨b, p, e', _⟩ := h4 0 xs[0] (List.getElem?_eq_getElem hne)
  subst e'; exact ⟨b, p, c, e⟩
theorem blk_sec {g cap : Nat} {sec : List UInt8} {rest : List Value} {t : TypeId} {h : Hp} (q : blk g (sec.map u8 ++ rest) t h) {k : Nat} (hl : sec.length = k) (hc : k ≤ cap ∧ cap ≤ 9223372036854775807 ∧ rest.length = cap - k) : rdH 1 (.slice (some ⟨g, 0, none⟩) k cap) k (sec.map u8) h := by
  refine q.rd hc.1 hc.2.1 (by simp; omega) ?_
  rw [List.drop_zero, Nat.mul_one, List.take_append_of_le_length (by simp; omega), List.take_of_length_le (by simp; omega)]
def catF (F : Nat → List UInt8) (i : Nat) : List UInt8 := (List.range i).flatMap fun j => F (1 + j)
theorem catF_succ (F : Nat → List UInt8) (i : Nat) : catF F i ++ F (1 + i) = catF F (i + 1) := by simp [catF, List.range_succ]
theorem crc_succ (F : Nat → List UInt8) (i : Nat) : crcMore (crcSum (catF F i)) (F (1 + i)) = crcSum (catF F (i + 1)) := by
  unfold crcSum; rw [crcMore_append, catF_succ]
theorem crc0 (F : Nat → List UInt8) : Value.int .u32 0 = u32 (crcSum (catF F 0)) := by
  have : crcSum (catF F 0) = 0 := by show crcSum [] = 0; decide
  rw [this]; rfl
/-- a new disk -/
def newD (n : Nat) : Dsk := ⟨n, fun _ => List.replicate 256 0, fun _ => [], 0, 0, 0, false, 0⟩
theorem newD_ok {n : Nat} (h : 1 ≤ n ∧ n ≤ 4096) : (newD n).Ok := ⟨h.1, h.2, fun _ _ => by simp [newD], fun _ _ p hp => by simp [newD] at hp, by simp [newD], by simp [newD], by simp [newD], by simp [newD]⟩
theorem newD_in {n : Nat} : (newD n).In (List.replicate (n * 256) 0) [] 0 (fun _ => none) := by
  refine ⟨by simp [newD], fun i hi => ?_, fun e he => absurd he (by simp), fun i _ h => by simp [newD] at h, by simp, by simp, fun e he => absurd he (by simp)⟩
  simp only [newD] at hi ⊢
  rw [List.drop_replicate, List.take_replicate]; congr 1; omega
theorem diskA.f1 {D : Dsk} (h : D.f1 = 0) : { D with f1 := tick D.f1 } = D := by
  cases D; simp at h; subst h; rfl
/-! ### a function that needs the disk's struct alone -/
theorem Sep.tri {z w : World} {A B C : List Asn} (H : Sep z (A ++ (B ++ C)) w) : Sep z (A ++ (C ++ B)) w := by
  have h1 : Sep z ([seps A] ++ (B ++ C)) w := H.shut
  have h2 : Sep z (B ++ (C ++ [seps A])) w := by rw [← List.append_assoc]; exact h1.swap
  have h3 : Sep z ([seps B] ++ (C ++ [seps A])) w := h2.shut
  have h4 : Sep z (C ++ ([seps A] ++ [seps B])) w := by rw [← List.append_assoc]; exact h3.swap
  have h5 : Sep z [seps C, seps A, seps B] w := h4.shut
  have h6 : Sep z ([seps B] ++ [seps A, seps C]) w := h5.pick 3 [2, 1, 0] rfl
  have h7 : Sep z (B ++ [seps A, seps C]) w := h6.opened
  have h8 : Sep z ([seps A] ++ ([seps C] ++ B)) w := h7.swap
  have h9 : Sep z (A ++ ([seps C] ++ B)) w := h8.opened
  have h10 : Sep z ([seps C] ++ (B ++ A)) w := by rw [← List.append_assoc]; exact h9.swap
  have h11 : Sep z (C ++ (B ++ A)) w := h10.opened
  have h12 : Sep z ((B ++ A) ++ C) w := h11.swap
  have h13 : Sep z (B ++ (A ++ C)) w := by rw [← List.append_assoc]; exact h12
  have h14 : Sep z ((A ++ C) ++ B) w := h13.swap
  rwa [List.append_assoc] at h14
def dkB (pd bd m : Nat) (D : Dsk) (f0 : Int) : Asn := blk pd [.slice (some ⟨bd, 0, none⟩) (D.n * 256) (D.n * 256), .map (some m), .int .i64 f0, .int .i64 D.f1, .int .i64 D.f2, .int .i64 D.f3, .bool D.cut, .int .i64 D.left] 74
theorem Cn.onDisk {P : Program} {f : FuncId} {args : List Value} {pre : List Asn} {pd : Nat} {D : Dsk} {post : Value → List Asn → Prop}
    (h : D.Ok → ∀ bd m f0, Cn P f args (dkB pd bd m D f0 :: pre) (fun v Γ => ∃ Γ', post v Γ' ∧ Γ = Γ' ++ [dkB pd bd m D f0])) :
    Cn P f args (diskA pd D :: pre) (fun v Γ => ∃ Γ', post v Γ' ∧ Γ = Γ' ++ [diskA pd D]) := fun z R w H => by
  have H0 : Sep z (diskA pd D :: (pre ++ R)) w := H
  obtain ⟨bd, m, f0, bs, es, clk, hq, hD, hIn, H1⟩ := H0.disk
  have H2 : Sep z ([dkB pd bd m D f0] ++ ((diskB pd bd m D f0 bs es clk hq).drop 1 ++ (pre ++ R))) w := H1
  have H3 : Sep z ((dkB pd bd m D f0 :: pre) ++ (R ++ (diskB pd bd m D f0 bs es clk hq).drop 1)) w := by
    have := H2.tri
    rw [List.append_assoc] at this
    exact this
  refine Ret.mono (h hD bd m f0 z _ w H3) ?_
  rintro v w' ⟨Γ, ⟨Γ', hp, rfl⟩, H4⟩
  refine ⟨Γ' ++ [diskA pd D], ⟨Γ', hp, rfl⟩, ?_⟩
  rw [List.append_assoc] at H4
  have H5 : Sep z ([dkB pd bd m D f0] ++ (R ++ ((diskB pd bd m D f0 bs es clk hq).drop 1 ++ Γ'))) w' := by
    have := H4.swap
    rw [List.append_assoc, List.append_assoc] at this
    exact this
  have H6 : Sep z (diskB pd bd m D f0 bs es clk hq ++ (Γ' ++ R)) w' := by
    have := H5.tri
    rw [List.append_assoc] at this
    exact this
  have H7 : Sep z ([diskA pd D] ++ (Γ' ++ R)) w' := Sep.toDisk H6 hD hIn
  have H8 : Sep z (Γ' ++ (R ++ [diskA pd D])) w' := by
    have := H7.swap
    rw [List.append_assoc] at this
    exact this
  have H9 := H8.tri
  rw [← List.append_assoc] at H9
  exact H9
/-! ### numbers that were seen -/
def seenF : List Int → Nat → List IE
  | [], _ => []
  | k :: ks, n => (k, .bool true, n) :: seenF ks (n + 1)
def seen (ns : List Int) : List IE := seenF ns 0
theorem get_seenF : ∀ (ns : List Int) (n : Nat) (k : Int), getM (seenF ns n) k = if k ∈ ns then some (.bool true) else none
  | [], n, k => rfl
  | x :: xs, n, k => by
    simp only [seenF, getM, get_seenF xs]
    by_cases h : k = x
    · simp [h]
    · by_cases h2 : k ∈ xs
      · simp [h, h2]
      · simp [h, h2]
theorem get_seen (ns : List Int) (k : Int) : (getM (seen ns) k).getD (.bool false) = .bool (decide (k ∈ ns)) := by
  unfold seen; rw [get_seenF]; split
  · rename_i h; simp [h]
  · rename_i h; simp [h]
theorem seenF_snoc : ∀ (ns : List Int) (n : Nat) (k : Int), seenF (ns ++ [k]) n = seenF ns n ++ [(k, .bool true, n + ns.length)]
  | [], n, k => rfl
  | x :: xs, n, k => by
    simp only [List.cons_append, seenF, seenF_snoc xs, List.length_cons]
    rw [show n + 1 + xs.length = n + (xs.length + 1) from by omega]
theorem put_seen {ns : List Int} {k : Int} (h : k ∉ ns) : putM (seen ns) k (.bool true) ns.length = seen (ns ++ [k]) ∧ putC (seen ns) k ns.length = (ns ++ [k]).length := by
  have : hasM (seen ns) k = false := by unfold hasM seen; rw [get_seenF, if_neg h]; rfl
  constructor
  · unfold putM; rw [this]; unfold seen; rw [seenF_snoc]; simp
  · unfold putC; rw [this]; simp
theorem Sep.imX {z w : World} {Γ : List Asn} (i : Nat) {A : Asn} (H : Sep z Γ w) (hi : Γ[i]? = some A) {p : Prop} (hA : ∀ h, A h → p) : p := H.says i hi hA
/-! ### images of a part -/
def imA (A : Asn) (v : Value) (es : List ImE) : Asn := fun h => A h ∧ rdH 3 v es.length (imC es) h ∧ imesOk es h
theorem Sep.imA {z w : World} {Γ : List Asn} (i : Nat) {A : Asn} (H : Sep z Γ w) (hi : Γ[i]? = some A) {v : Value} {ims : List Img} (hA : ∀ h, A h → imgsH v ims h) : ∃ es : List ImE, es.map Prod.fst = ims ∧ Sep z (Γ.set i (YtanejicgmgpjcaaGreatDoor.imA A v es)) w :=
  H.exAt i (p := fun es : List ImE => es.map Prod.fst = ims) (B := fun es => YtanejicgmgpjcaaGreatDoor.imA A v es) hi (fun h a => by
    obtain ⟨es, h1, h2, h3⟩ := hA h a
    subst h1
    exact ⟨es, rfl, a, by simpa using h2, h3⟩)
theorem imA.at {A : Asn} {ao : Option Addr} {n c : Nat} {es : List ImE} {j : Nat} {e : ImE} {z w : World} {Γ : List Asn} (i : Nat) (H : Sep z Γ w) (hi : Γ[i]? = some (imA A (.slice ao n c) es)) (he : es[j]? = some e) : ∀ k u, (ImE.cells e)[k]? = some u → At ao (j * 3 + k) u w := fun k u hk =>  by
  have hr := H.rd i hi (fun h q => q.2.1)
  obtain ⟨ao', c', e', _, _, _, h4⟩ := hr
  cases e'
  exact h4 _ _ (imC_get he k u hk)
def nsC (ims : List Img) : List Value := ims.map fun m => .int .i64 m.num
theorem nsC_snoc {ims : List Img} {i : Nat} {m : Img} (h : ims[i]? = some m) : nsC (ims.take i) ++ [Value.int .i64 m.num] = nsC (ims.take (i + 1)) := by
  rw [List.take_add_one, h]; simp [nsC]
theorem nsC_map (ims : List Img) : nsC ims = (ims.map Img.num).map (Value.int .i64) := by simp [nsC]
/-- an image's sector, a record's sectors -/
def imgL (e sq : Int) (m : Img) : List UInt8 := beN 1 m.kind ++ beN 2 m.num ++ beN 4 e ++ beN 5 sq ++ m.body
def imgB (e sq : Int) (ims : List Img) : List UInt8 := ims.flatMap fun m => sect (imgL e sq m)
theorem imgB_snoc {e sq : Int} {ims : List Img} {i : Nat} {m : Img} (h : ims[i]? = some m) : imgB e sq (ims.take i) ++ sect (imgL e sq m) = imgB e sq (ims.take (i + 1)) := by
  rw [List.take_add_one, h]; simp [imgB]
def hdL (e sq : Int) (ims : List Img) : List UInt8 := [80, 76, 79, 71] ++ beN 8 e ++ beN 8 sq ++ beN 4 ((crcSum (imgB e sq ims)).toNat : Int) ++ beN 2 ((ims.map Img.num).length : Int) ++ (ims.map Img.num).flatMap (beN 4)
theorem imgL_len {e sq : Int} {m : Img} (h : m.body.length = 240) : (imgL e sq m).length = 252 := by simp [imgL, beN_len, h]
theorem imgB_len {e sq : Int} : ∀ {ims : List Img}, (∀ m ∈ ims, m.Ok) → (imgB e sq ims).length = ims.length * 256
  | [], _ => rfl
  | m :: ims, h => by
    have h1 := imgB_len (e := e) (sq := sq) (ims := ims) (fun m hm => h m (by simp [hm]))
    have h2 := sect_len (l := imgL e sq m) (by rw [imgL_len (h m (by simp)).2.2]; omega)
    simp only [imgB, List.flatMap_cons, List.length_append, List.length_cons] at h1 ⊢
    rw [h1, h2]; omega
/-- a record's sectors -/
def recB (e sq : Int) (ims : List Img) : List (List UInt8) := sect (hdL e sq ims) :: ims.map fun m => sect (imgL e sq m)
theorem recB_flat (e sq : Int) (ims : List Img) : sect (hdL e sq ims) ++ imgB e sq ims = (recB e sq ims).flatten := by
  simp [recB, imgB, List.flatMap]
theorem hdL_len (e sq : Int) (ims : List Img) : (hdL e sq ims).length = 26 + 4 * ims.length := by
  simp [hdL, beN_len, flat_len, -List.length_flatMap]; omega
theorem nodup_take {ims : List Img} {i : Nat} {m : Img} (h : (ims.map Img.num).Nodup) (hi : ims[i]? = some m) (hm : m.num ∈ (ims.take i).map Img.num) : False := by
  have hl := (List.getElem?_eq_some_iff.1 hi).1
  rw [← List.take_append_drop i ims, List.map_append, List.nodup_append] at h
  refine h.2.2 _ hm m.num ?_ rfl
  rw [List.drop_eq_getElem_cons hl, (List.getElem?_eq_some_iff.1 hi).2]
  simp
def recOK (ims : List Img) : Prop := (∀ m ∈ ims, m.Ok) ∧ (ims.map Img.num).Nodup
/-! ### what Append writes -/
def Dsk.wf (D : Dsk) : Dsk := { D with f2 := tick D.f2 }
def Dsk.wr (D : Dsk) (x : Nat) (ps : List (List UInt8)) : Dsk := { Dsk.ws { D with f2 := tick D.f2 } false x ps with left := max 0 (D.left - 1) }
def Dsk.bad (D : Dsk) : Prop := D.f2 = 1 ∨ (D.cut = true ∧ D.left = 0)
theorem Dsk.wr_n (D : Dsk) (x : Nat) (ps : List (List UInt8)) : (D.wr x ps).n = D.n := Dsk.ws_n _ _ _ _
theorem Dsk.wr_f1 (D : Dsk) (x : Nat) (ps : List (List UInt8)) : (D.wr x ps).f1 = D.f1 := (Dsk.ws_f _ _ _ _).1
theorem Dsk.ws_len (ps : List (List UInt8)) : ∀ (D : Dsk) (i j : Nat), ((D.ws false i ps).ver j).length ≤ (D.ver j).length + 1 := by
  induction ps with
  | nil => intro D i j; simp [Dsk.ws]
  | cons q qs ih =>
    intro D i j
    rcases Nat.lt_or_ge i j with h | h
    · have := ih (D.w1 false i q) (i + 1) j
      rw [Dsk.w1_ver _ _ _ (by omega)] at this
      exact this
    · simp only [Dsk.ws]
      rw [Dsk.ws_ver _ _ _ _ _ (.inl (by omega))]
      show ((upf D.ver i (D.ver i ++ [q])) j).length ≤ _
      unfold upf; split
      · rename_i e; subst e; simp
      · omega
theorem Dsk.wr_len (D : Dsk) (x : Nat) (ps : List (List UInt8)) (j : Nat) : ((D.wr x ps).ver j).length ≤ (D.ver j).length + 1 := Dsk.ws_len ps { D with f2 := tick D.f2 } x j
theorem flat_take {ps : List (List UInt8)} (h : ∀ p ∈ ps, p.length = 256) : ∀ k, (ps.take k).flatten = ps.flatten.take (k * 256) := by
  induction ps with
  | nil => intro k; simp
  | cons q qs ih =>
    intro k
    cases k with
    | zero => simp
    | succ k =>
      have hq := h q (by simp)
      rw [List.take_succ_cons, List.flatten_cons, List.flatten_cons, ih (fun p hp => h p (by simp [hp])), List.take_append, List.take_of_length_le (l := q) (by omega)]
      rw [show (k + 1) * 256 - q.length = k * 256 from by omega]
theorem flat_drop {ps : List (List UInt8)} (h : ∀ p ∈ ps, p.length = 256) : ∀ k, (ps.drop k).flatten = ps.flatten.drop (k * 256) := by
  induction ps with
  | nil => intro k; simp
  | cons q qs ih =>
    intro k
    cases k with
    | zero => simp
    | succ k =>
      have hq := h q (by simp)
      rw [List.drop_succ_cons, List.flatten_cons, ih (fun p hp => h p (by simp [hp])), List.drop_append, List.drop_of_length_le (l := q) (by omega), List.nil_append]
      rw [show (k + 1) * 256 - q.length = k * 256 from by omega]
theorem flat_256 {ps : List (List UInt8)} (h : ∀ p ∈ ps, p.length = 256) : ps.flatten.length = ps.length * 256 := by
  induction ps with
  | nil => rfl
  | cons q qs ih =>
    have hq := h q (by simp)
    rw [List.flatten_cons, List.length_append, ih (fun p hp => h p (by simp [hp])), List.length_cons]; omega
theorem recB_ok {e sq : Int} {ims : List Img} (h : ∀ m ∈ ims, m.Ok) (hl : ims.length ≤ 40) : (∀ p ∈ recB e sq ims, p.length = 256) ∧ (recB e sq ims).length = 1 + ims.length := by
  refine ⟨fun p hp => ?_, by simp [recB]; omega⟩
  rcases List.mem_cons.1 hp with rfl | hp
  · exact sect_len (by rw [hdL_len]; omega)
  · obtain ⟨m, hm, rfl⟩ := List.mem_map.1 hp
    exact sect_len (Nat.le_of_eq (imgL_len (h m hm).2.2))
theorem grow.rdB {e : TypeId} {b n c : Nat} {xs : List UInt8} {h : Hp} (q : grow e 1 (.slice (some ⟨b, 0, none⟩) n c) n (xs.map u8) h) : rdH 1 (.slice (some ⟨b, 0, none⟩) n c) n (xs.map u8) h := q.rd
theorem grow.sl {e : TypeId} {sz n : Nat} {v : Value} {xs : List Value} {h : Hp} (q : grow e sz v n xs h) (hn : 0 < n) : ∃ b c, v = .slice (some ⟨b, 0, none⟩) n c ∧ n ≤ c ∧ c ≤ 9223372036854775807 := by
  have hr := q.rd
  rcases q.form with ⟨_, rfl⟩ | ⟨b, c, rfl, h⟩
  · omega
  · obtain ⟨_, _, e, _, hc, _⟩ := hr
    cases e
    exact ⟨b, c, rfl, h, hc⟩
/-! ### images of a law -/
def opB (fill : Int) (i : Nat) : UInt8 := byt (IntKind.i64.wrap (fill + i))
def opIm (kind fill : Int) (i : Nat) (n : Int) : Img := ⟨n, kind, List.replicate 240 (opB fill i)⟩
def opImgs (ns : List Int) (kind fill : Int) : List Img := ns.mapIdx (opIm kind fill)
theorem opImgs_len (ns : List Int) (kind fill : Int) : (opImgs ns kind fill).length = ns.length := by simp [opImgs]
theorem opImgs_snoc {ns : List Int} {i : Nat} {x : Int} (kind fill : Int) (h : ns[i]? = some x) : opImgs (ns.take i) kind fill ++ [opIm kind fill i x] = opImgs (ns.take (i + 1)) kind fill := by
  have hl := (List.getElem?_eq_some_iff.1 h).1
  rw [List.take_add_one, h]
  simp only [opImgs, Option.toList, List.mapIdx_append, List.mapIdx_cons, List.mapIdx_nil, List.length_take]
  rw [Nat.min_eq_left (by omega)]; simp
theorem rep_snoc (j : Nat) (b : UInt8) : (List.replicate j b).map u8 ++ [u8 b] = (List.replicate (j + 1) b).map u8 := by rw [List.replicate_succ']; simp
/-! ### what Open reads -/
def stepF (D : Dsk) (s : Sup) (a : Int) : Nat → List UInt8 := fun j => D.cont (ringAt s (a + j))
inductive Runs (D : Dsk) (s : Sup) : Int → Int → Int → List Rc → Int → Int → Int → Prop
  | nil (a q u : Int) : Runs D s a q u [] a q u
  | snoc {a q u a' q' u' : Int} {rs : List Rc} {ims : List Img} : Runs D s a q u rs a' q' u' → u' < s.len → nextP (stepF D s a') s.epoch q' (s.len - u') ims → Runs D s a q u (rs ++ [⟨q', ims⟩]) ((a' + (1 + (ims.length : Int))) % s.len) (q' + 1) (u' + (1 + (ims.length : Int)))
theorem nextP.len {f : Nat → List UInt8} {e sq room : Int} {ims : List Img} (h : nextP f e sq room ims) : 1 ≤ ims.length ∧ ims.length ≤ 40 ∧ 1 + (ims.length : Int) ≤ room := by
  obtain ⟨h1, _, _, h4, h5, _⟩ := h
  have hc := h1.2.2.2.1
  have : ims.length = hCnt (f 0) := by rw [h5]; simp
  omega
end Go.Proofs.YtanejicgmgpjcaaGreatDoor
