/-
  A record put on a disk that does not fail. No condition.
-/
import Derived.Test.YtanejicgmgpjcaaGreatDoorLogV
import Derived.Test.YtanejicgmgpjcaaGreatDoorLogZ
set_option maxRecDepth 100000
namespace Go.Proofs.YtanejicgmgpjcaaGreatDoor
open Go.RowKit
/-- why a record is not put -/
def codeP (c : Int) (ims : List Img) (room : Prop) : Prop := (c = 16 ∧ ims.length > 40) ∨ (c = 1 ∧ ims.length ≤ 40 ∧ (ims = [] ∨ ¬ recOK ims)) ∨ (c = 15 ∧ (1 ≤ ims.length ∧ ims.length ≤ 40) ∧ recOK ims ∧ ¬ room)
theorem not_code {c : Int} {ims : List Img} {room : Prop} (h1 : 1 ≤ ims.length ∧ ims.length ≤ 40) (h2 : recOK ims) (h3 : room) : ¬ codeP c ims room := by
  rintro (⟨_, h⟩ | ⟨_, _, rfl | h⟩ | ⟨_, _, _, h⟩)
  · omega
  · simp at h1
  · exact h h2
  · exact h h3
theorem codeP.ne {c : Int} {ims : List Img} {room : Prop} (h : codeP c ims room) : c ≠ 0 := by
  rcases h with ⟨rfl, _⟩ | ⟨rfl, _⟩ | ⟨rfl, _⟩ <;> decide
theorem recOK_ops {ns : List Int} {kd fl : Int} (h1 : ∀ x ∈ ns, 0 ≤ x ∧ x ≤ 1023) (h2 : ns.Nodup) (h3 : 1 ≤ kd ∧ kd ≤ 5) : recOK (opImgs ns kd fl) := by
  have hn : (opImgs ns kd fl).map Img.num = ns := by
    apply List.ext_getElem
    · simp [opImgs]
    · intro j a b; simp [opImgs, opIm]
  refine ⟨fun m hm => ?_, by rw [hn]; exact h2⟩
  obtain ⟨j, hj, rfl⟩ := List.mem_iff_getElem.1 hm
  simp only [opImgs, List.length_mapIdx] at hj
  simp only [opImgs, List.getElem_mapIdx]
  exact ⟨h1 _ (List.getElem_mem hj), h3, by simp [opIm]⟩
/-! ### the laws' argument -/
structure OpM where
  k0 : Int
  kd : Int
  fl : Int
  k4 : Int
  k5 : Int
  ns : List Int
abbrev OpE := OpM × Value × Value
def OpE.cells (e : OpE) : List Value := [.int .i64 e.1.k0, e.2.1, .int .i64 e.1.kd, .int .i64 e.1.fl, .int .i64 e.1.k4, .int .i64 e.1.k5, e.2.2]
def opC (es : List OpE) : List Value := es.flatMap OpE.cells
theorem opC_get : ∀ {es : List OpE} {j : Nat} {e : OpE}, es[j]? = some e → ∀ k u, (OpE.cells e)[k]? = some u → (opC es)[j * 7 + k]? = some u
  | x :: es, 0, e, h, k, u, hk => by
    simp at h; subst h
    have hl := (List.getElem?_eq_some_iff.1 hk).1
    simp only [opC, List.flatMap_cons]
    rw [List.getElem?_append_left (by omega)]; simpa using hk
  | x :: es, j + 1, e, h, k, u, hk => by
    have := opC_get (es := es) (j := j) (by simpa using h) k u hk
    simp only [opC, List.flatMap_cons] at this ⊢
    rw [List.getElem?_append_right (by simp [OpE.cells]; omega)]
    rw [show (j + 1) * 7 + k - (OpE.cells x).length = j * 7 + k from by simp [OpE.cells]; omega]
    exact this
def opsOk (es : List OpE) (h : Hp) : Prop := ∀ e ∈ es, rdH 1 e.2.1 e.1.ns.length (e.1.ns.map (Value.int .i64)) h ∧ e.2.2.oneCell' = true ∧ e.1.ns.length ≤ 1099511627776
def rgN (m : Nat) : List Int := (List.range m).map fun k : Nat => (k : Int)
theorem rgN_len (m : Nat) : (rgN m).length = m := by simp [rgN]
theorem rgN_snoc (m : Nat) : (rgN m).map (Value.int .i64) ++ [Value.int .i64 (m : Int)] = (rgN (m + 1)).map (Value.int .i64) := by simp [rgN, List.range_succ]
theorem rgN_ok {m : Nat} (h : m ≤ 50) (fl : Int) : recOK (opImgs (rgN m) 5 fl) := by
  refine recOK_ops (fun x hx => ?_) ?_ (by decide)
  · obtain ⟨k, hk, rfl⟩ := List.mem_map.1 hx
    have := List.mem_range.1 hk; omega
  · unfold rgN
    refine List.Pairwise.map _ (fun a b (hab : a ≠ b) => by omega) List.nodup_range
def codeR (cd : Int) (m : Nat) (u : Int) : Prop := (cd = 16 ∧ 40 < m) ∨ (cd = 1 ∧ m = 0) ∨ (cd = 15 ∧ (1 ≤ m ∧ m ≤ 40) ∧ 64 - u < m + 1) ∨ (cd = 0 ∧ (1 ≤ m ∧ m ≤ 40) ∧ m + 1 ≤ 64 - u)
theorem code_bad {c cd : Int} {m : Nat} {u : Int} {ims : List Img} {room : Prop} (h : codeP c ims room) (hr : codeR cd m u) (hl : ims.length = m) (hok : recOK ims) (hroom : room ↔ (m : Int) + 1 ≤ 64 - u) : c = cd := by
  rcases h with ⟨rfl, h⟩ | ⟨rfl, h, h2⟩ | ⟨rfl, h, _, h2⟩
  · rcases hr with hr | hr | hr | hr <;> omega
  · rcases h2 with rfl | h2
    · simp at hl; rcases hr with hr | hr | hr | hr <;> omega
    · exact absurd hok h2
  · rw [hroom] at h2
    rcases hr with hr | hr | hr | hr <;> omega
/-- the laws' superblocks -/
def s5 : Sup := ⟨1, 1, 16, 18, 64, 0, 5⟩
def sB (h : Int) : Sup := ⟨1, 1, 16, 18, 64, h, 9⟩
def sR (h : Int) : Sup := ⟨0, 1, 16, 18, 64, h, 0⟩
theorem s5_f : s5.gen = 1 ∧ s5.epoch = 1 ∧ s5.pages = 16 ∧ s5.start = 18 ∧ s5.len = 64 ∧ s5.head = 0 ∧ s5.seq = 5 := ⟨rfl, rfl, rfl, rfl, rfl, rfl, rfl⟩
theorem sB_f (h : Int) : (sB h).gen = 1 ∧ (sB h).epoch = 1 ∧ (sB h).pages = 16 ∧ (sB h).start = 18 ∧ (sB h).len = 64 ∧ (sB h).head = h ∧ (sB h).seq = 9 := ⟨rfl, rfl, rfl, rfl, rfl, rfl, rfl⟩
theorem sR_f (h : Int) : (sR h).gen = 0 ∧ (sR h).epoch = 1 ∧ (sR h).pages = 16 ∧ (sR h).start = 18 ∧ (sR h).len = 64 ∧ (sR h).head = h ∧ (sR h).seq = 0 := ⟨rfl, rfl, rfl, rfl, rfl, rfl, rfl⟩
theorem Sup.ok_of {s : Sup} {n : Int} (h1 : 0 ≤ s.gen ∧ s.gen ≤ 1) (h2 : s.epoch = 1) (h3 : s.pages = 16) (h4 : s.start = 18) (h5 : s.len = 64) (h6 : 0 ≤ s.head ∧ s.head < 64) (h7 : 0 ≤ s.seq ∧ s.seq ≤ 9) (hn : n = 100) : s.Ok n := by
  refine ⟨fun x hx => ?_, by omega, by omega, by omega, by omega, by omega, by omega, by omega⟩
  simp only [Sup.list, List.mem_cons, List.not_mem_nil, or_false] at hx
  omega
theorem one_es {α β : Type} {es : List (α × β)} {r : α} (h : es.map Prod.fst = [r]) : ∃ w, es = [(r, w)] := by
  match es, h with
  | [(r', w)], h => simp at h; subst h; exact ⟨w, rfl⟩
/-- a disk that does not fail -/
structure Cln (D : Dsk) (V : Nat) : Prop where
  f1 : D.f1 = 0
  f2 : D.f2 = 0
  cut : D.cut = false
  ver : ∀ i, (D.ver i).length ≤ V
theorem Cln.good {D : Dsk} {V : Nat} (h : Cln D V) : ¬ D.bad := by
  rintro (q | ⟨q, _⟩)
  · rw [h.f2] at q; cases q
  · rw [h.cut] at q; cases q
theorem Cln.wr {D : Dsk} {V : Nat} (h : Cln D V) (x : Nat) (ps : List (List UInt8)) : Cln (D.wr x ps) (V + 1) := by
  have hf := Dsk.ws_f false ps { D with f2 := tick D.f2 } x
  refine ⟨hf.1.trans h.f1, hf.2.1.trans ?_, hf.2.2.2.1.trans h.cut, fun i => Nat.le_trans (Dsk.wr_len D x ps i) (Nat.succ_le_succ (h.ver i))⟩
  show tick D.f2 = 0
  rw [h.f2]; rfl
theorem Cln.le {D : Dsk} {V V' : Nat} (h : Cln D V) (hv : V ≤ V') : Cln D V' := ⟨h.f1, h.f2, h.cut, fun i => Nat.le_trans (h.ver i) hv⟩
theorem Cln.app {D : Dsk} {V : Nat} (h : Cln D V) (s : Sup) (a : Int) (k : Nat) (ps : List (List UInt8)) : Cln (appD D s a k ps) (V + 2) := by
  unfold appD; split
  · exact (h.wr _ _).wr _ _
  · exact (h.wr _ _).le (by omega)
theorem app_n (D : Dsk) (s : Sup) (a : Int) (k : Nat) (ps : List (List UInt8)) : (appD D s a k ps).n = D.n := by
  unfold appD; split
  · rw [Dsk.wr_n, Dsk.wr_n]
  · rw [Dsk.wr_n]
theorem newD_cln (n : Nat) : Cln (newD n) 0 := ⟨rfl, rfl, rfl, fun i => by simp [newD]⟩
theorem appendS_c (pl pd pt : Nat) (s : Sup) (at_ sq us : Int) (br nu : Bool) (v : Value) (ims : List Img) (A : Asn) (hA : ∀ h, A h → imgsH v ims h) (D : Dsk) (V : Nat) (hc : Cln D V) (hV : V ≤ 1000000000000) (hok : s.Ok (D.n : Int)) (hnu : nu = decide (s.epoch < 4294967296)) (hat : 0 ≤ at_ ∧ at_ < s.len) (hsq : 0 ≤ sq ∧ sq ≤ 2199023255552) (hu : 0 ≤ us ∧ us ≤ s.len) :
    Cn Tryz.prog 9 [.pointer (some ⟨pl, 0, none⟩), v] [blk pl [.pointer (some ⟨pd, 0, none⟩), .pointer (some ⟨pt, 0, none⟩), .int .i64 s.gen, .int .i64 s.epoch, .int .i64 s.pages, .int .i64 s.start, .int .i64 s.len, .int .i64 s.head, .int .i64 s.seq, .int .i64 at_, .int .i64 sq, .int .i64 us, .bool br, .bool nu] 77, tblA pt, diskA pd D, A] (fun v Γ => (∃ c : Int, codeP c ims (1 + (ims.length : Int) ≤ (if br then 0 else s.len - us) ∧ nu = true ∧ sq < 1099511627776) ∧ v = .int .i64 c ∧ Γ = [blk pl [.pointer (some ⟨pd, 0, none⟩), .pointer (some ⟨pt, 0, none⟩), .int .i64 s.gen, .int .i64 s.epoch, .int .i64 s.pages, .int .i64 s.start, .int .i64 s.len, .int .i64 s.head, .int .i64 s.seq, .int .i64 at_, .int .i64 sq, .int .i64 us, .bool br, .bool nu] 77, tblA pt, diskA pd D, A]) ∨ ((1 ≤ ims.length ∧ ims.length ≤ 40) ∧ recOK ims ∧ (1 + (ims.length : Int) ≤ (if br then 0 else s.len - us) ∧ nu = true ∧ sq < 1099511627776) ∧ ∃ k : Nat, (k : Int) = min (1 + (ims.length : Int)) (s.len - at_) ∧ v = .int .i64 0 ∧ Γ = [blk pl [.pointer (some ⟨pd, 0, none⟩), .pointer (some ⟨pt, 0, none⟩), .int .i64 s.gen, .int .i64 s.epoch, .int .i64 s.pages, .int .i64 s.start, .int .i64 s.len, .int .i64 s.head, .int .i64 s.seq, .int .i64 ((at_ + (1 + (ims.length : Int))) % s.len), .int .i64 (sq + 1), .int .i64 (us + (1 + (ims.length : Int))), .bool br, .bool nu] 77, tblA pt, diskA pd (appD D s at_ k (recB s.epoch sq ims)), A])) := by
  refine Cn.mono (append_c pl pd pt s at_ sq us br nu v ims A hA D hok hnu hat hsq hu (fun i => Nat.le_trans (hc.ver i) hV)) ?_
  have hg := hc.good
  rintro v Γ (⟨h1, rfl, rfl⟩ | ⟨h1, h2, rfl, rfl⟩ | ⟨h1, h2, h3, rfl, rfl⟩ | ⟨h1, h2, h3, k, hk, h4⟩)
  · exact .inl ⟨16, .inl ⟨rfl, h1⟩, rfl, rfl⟩
  · exact .inl ⟨1, .inr (.inl ⟨rfl, h1, h2⟩), rfl, rfl⟩
  · exact .inl ⟨15, .inr (.inr ⟨rfl, h1, h2, h3⟩), rfl, rfl⟩
  · have hpl := (recB_ok (e := s.epoch) (sq := sq) h2.1 h1.2).2
    rcases h4 with ⟨_, h5, rfl, rfl⟩ | ⟨_, h5, _, rfl, rfl⟩ | ⟨h5, _⟩ | ⟨_, _, h5, _⟩
    · refine .inr ⟨h1, h2, h3, k, hk, rfl, ?_⟩
      unfold appD; rw [if_neg (by omega)]
    · refine .inr ⟨h1, h2, h3, k, hk, rfl, ?_⟩
      unfold appD; rw [if_pos (by omega)]
    · exact absurd h5 hg
    · exact absurd h5 (hc.wr _ _).good
end Go.Proofs.YtanejicgmgpjcaaGreatDoor
