/-
  Numbers as bytes, sectors as bytes, plainly. No condition.
-/
import Derived.Test.YtanejicgmgpjcaaGreatDoorLogK
import Derived.Test.YtanejicgmgpjcaaGreatDoorLogM
import Derived.IntWalk
set_option maxRecDepth 100000
namespace Go.Proofs.YtanejicgmgpjcaaGreatDoor

/-- a number of k bytes -/
def beN (k : Nat) (x : Int) : List UInt8 := (List.range k).map fun i : Nat => byt (x / 2 ^ (8 * (k - 1 - i)))
theorem beN_len (k : Nat) (x : Int) : (beN k x).length = k := by simp [beN]
theorem beN_get {k i : Nat} (x : Int) (h : i < k) : (beN k x)[i]? = some (byt (x / 2 ^ (8 * (k - 1 - i)))) := by simp [beN, h]
/-- bytes put into others from a place on, the first i of them -/
def wrS (bs T : List UInt8) (a i : Nat) : List UInt8 := bs.take a ++ T.take i ++ bs.drop (a + i)
def wrAll (bs T : List UInt8) (a : Nat) : List UInt8 := bs.take a ++ T ++ bs.drop (a + T.length)
theorem wrS_len {bs T : List UInt8} {a i : Nat} (h : a + i ≤ bs.length) (hi : i ≤ T.length) : (wrS bs T a i).length = bs.length := by simp [wrS]; omega
theorem wrS_zero (bs T : List UInt8) (a : Nat) : wrS bs T a 0 = bs := by simp [wrS]
theorem wrS_all (bs T : List UInt8) (a : Nat) {i : Nat} (h : i = T.length) : wrS bs T a i = wrAll bs T a := by subst h; simp [wrS, wrAll]
theorem wrAll_len {bs T : List UInt8} {a : Nat} (h : a + T.length ≤ bs.length) : (wrAll bs T a).length = bs.length := by simp [wrAll]; omega
theorem wrS_step {bs T : List UInt8} {a i : Nat} {b : UInt8} (tl : List Value) (h : a + T.length ≤ bs.length) (hb : T[i]? = some b) :
    ((wrS bs T a i).map u8 ++ tl).take (a + i) ++ [u8 b] ++ ((wrS bs T a i).map u8 ++ tl).drop (a + i + 1) = (wrS bs T a (i + 1)).map u8 ++ tl := by
  have hi := (List.getElem?_eq_some_iff.1 hb).1
  have hA : (bs.take a ++ T.take i).length = a + i := by simp; omega
  have hd : bs.drop (a + i) = bs[a + i]'(by omega) :: bs.drop (a + i + 1) := List.drop_eq_getElem_cons (by omega)
  unfold wrS
  rw [List.take_add_one, hb, hd]
  simp only [List.map_append, List.map_cons, List.append_assoc]
  rw [← List.append_assoc (List.map u8 (bs.take a)), ← List.map_append]
  rw [List.take_append_of_le_length (by simp; omega), List.take_of_length_le (by simp; omega), List.drop_append, List.drop_of_length_le (by simp; omega)]
  rw [show a + i + 1 - (List.map u8 (bs.take a ++ T.take i)).length = 1 from by rw [List.length_map, hA]; omega]
  simp [Nat.add_assoc]
/-- a sum's bytes -/
def sumB (s : UInt32) : List UInt8 := [s.toUInt8, (s >>> 8).toUInt8, (s >>> 16).toUInt8, (s >>> 24).toUInt8]
/-- a number that bytes make -/
def beNat (l : List UInt8) : Nat := l.foldl (fun n b => 256 * n + b.toNat) 0
theorem beNat_snoc (l : List UInt8) (b : UInt8) : beNat (l ++ [b]) = 256 * beNat l + b.toNat := by simp [beNat, List.foldl_append]
theorem beNat_lt_aux : ∀ (l : List UInt8) (acc : Nat), l.foldl (fun n b => 256 * n + b.toNat) acc < (acc + 1) * 256 ^ l.length
  | [], acc => by simp
  | b :: l, acc => by
    have h := beNat_lt_aux l (256 * acc + b.toNat)
    have hb := b.toNat_lt
    simp only [List.foldl_cons, List.length_cons, Nat.pow_succ]
    have h2 : (256 * acc + b.toNat + 1) * 256 ^ l.length ≤ (256 * (acc + 1)) * 256 ^ l.length := Nat.mul_le_mul_right _ (by omega)
    have h3 : 256 * (acc + 1) * 256 ^ l.length = (acc + 1) * (256 ^ l.length * 256) := by
      rw [Nat.mul_comm 256 (acc + 1), Nat.mul_assoc, Nat.mul_comm 256]
    omega
theorem beNat_lt (l : List UInt8) : beNat l < 256 ^ l.length := by have := beNat_lt_aux l 0; simpa [beNat] using this
/-- as an int: of eight bytes it may be below nought -/
def getI (l : List UInt8) : Int := IntKind.i64.wrap (beNat l)
theorem getI_small {l : List UInt8} (h : l.length ≤ 7) : getI l = beNat l := by
  have h1 := beNat_lt l
  have h2 : 256 ^ l.length ≤ 256 ^ 7 := Nat.pow_le_pow_right (by omega) h
  exact IntWalk.i64_in _ (by omega)
theorem getI_nil : getI [] = 0 := by decide
theorem wrap_spec (x : Int) : ∃ q, IntKind.i64.wrap x = x + q * 18446744073709551616 ∧ -9223372036854775808 ≤ IntKind.i64.wrap x ∧ IntKind.i64.wrap x ≤ 9223372036854775807 := by
  have key : IntKind.i64.wrap x = if 9223372036854775808 ≤ x % 18446744073709551616 then x % 18446744073709551616 - 18446744073709551616 else x % 18446744073709551616 := by
    show (if (true && decide (x % (2 ^ 64 : Int) ≥ (2 ^ (64 - 1) : Int))) = true then x % (2 ^ 64 : Int) - (2 ^ 64 : Int) else x % (2 ^ 64 : Int)) = _
    simp only [Bool.true_and, decide_eq_true_eq, show (2 : Int) ^ 64 = 18446744073709551616 from rfl, show (2 : Int) ^ (64 - 1) = 9223372036854775808 from rfl, ge_iff_le]
  rw [key]
  by_cases h : 9223372036854775808 ≤ x % 18446744073709551616
  · rw [if_pos h]; exact ⟨-(x / 18446744073709551616) - 1, by omega, by omega, by omega⟩
  · rw [if_neg h]; exact ⟨-(x / 18446744073709551616), by omega, by omega, by omega⟩
theorem wrap_or (x : Int) (b : UInt8) : IntKind.i64.wrap (IntKind.i64.wrap x * 256) % 256 = 0 ∧ IntKind.i64.wrap (IntKind.i64.wrap x * 256) + b.toNat = IntKind.i64.wrap (256 * x + b.toNat) := by
  have hb := b.toNat_lt
  obtain ⟨q1, h1, h2, h3⟩ := wrap_spec x
  obtain ⟨q2, h4, h5, h6⟩ := wrap_spec (IntKind.i64.wrap x * 256)
  obtain ⟨q4, h7, h8, h9⟩ := wrap_spec (256 * x + b.toNat)
  omega
theorem beN_nat (k : Nat) {x : Nat} (h : x < 256 ^ k) : beNat (beN k (x : Int)) = x := by
  induction k generalizing x with
  | zero => simp at h; subst h; rfl
  | succ k ih =>
    have e : beN (k + 1) (x : Int) = beN k ((x / 256 : Nat) : Int) ++ [byt (x : Int)] := by
      apply List.ext_getElem?
      intro i
      rcases Nat.lt_trichotomy i k with h1 | h1 | h1
      · rw [beN_get _ (by omega), List.getElem?_append_left (by rw [beN_len]; omega), beN_get _ h1]
        congr 2
        rw [show 8 * (k + 1 - 1 - i) = 8 + 8 * (k - 1 - i) from by omega, Int.pow_add, ← Int.ediv_ediv_of_nonneg (by decide)]
        rfl
      · subst h1
        rw [beN_get _ (by omega), List.getElem?_append_right (by rw [beN_len]; omega), beN_len]
        simp
      · rw [List.getElem?_eq_none (by rw [beN_len]; omega), List.getElem?_eq_none (by simp [beN_len]; omega)]
    rw [e, beNat_snoc, ih (by rw [Nat.pow_succ] at h; omega)]
    have : (byt (x : Int)).toNat = x % 256 := by simp [byt]; omega
    rw [this]; omega

/-! ### a writer's memory: 256 bytes and a place -/
def wrC (bs : List UInt8) (a : Int) : List Value := bs.map u8 ++ [.int .i64 a]
theorem wrC_len {bs : List UInt8} (a : Int) (h : bs.length = 256) : (wrC bs a).length = 257 := by simp [wrC, h]
theorem wrC_at {bs : List UInt8} (a : Int) (h : bs.length = 256) : (wrC bs a)[256]? = some (.int .i64 a) := by simp [wrC, List.getElem?_append, h]
theorem wrC_set {bs : List UInt8} (a a' : Int) (h : bs.length = 256) : (wrC bs a).take 256 ++ [Value.int .i64 a'] ++ (wrC bs a).drop (256 + 1) = wrC bs a' := by
  unfold wrC
  rw [List.take_append_of_le_length (by simp [h]), List.take_of_length_le (by simp [h]), List.drop_of_length_le (by simp [h]), List.append_nil]
theorem wrC_step {bs T : List UInt8} {a i : Nat} {b : UInt8} (x : Int) (h : a + T.length ≤ bs.length) (hb : T[i]? = some b) :
    (wrC (wrS bs T a i) x).take (a + i) ++ [u8 b] ++ (wrC (wrS bs T a i) x).drop (a + i + 1) = wrC (wrS bs T a (i + 1)) x := wrS_step _ h hb
theorem wrC_copy {bs T : List UInt8} {a k : Nat} (x : Int) (h : a + T.length ≤ bs.length) (hk : k = T.length) : (wrC bs x).take a ++ (T.map u8).take k ++ (wrC bs x).drop (a + k) = wrC (wrAll bs T a) x := by
  subst hk
  unfold wrC wrAll
  rw [List.take_append_of_le_length (by simp; omega), List.drop_append_of_le_length (by simp; omega), List.take_of_length_le (l := T.map u8) (by simp)]
  simp
def wrH (pw : Nat) (a : Int) : Asn := fun h => ∃ bs : List UInt8, bs.length = 256 ∧ blk pw (wrC bs a) 118 h
theorem wrH.at {pw : Nat} {a : Int} {h : Hp} (w : wrH pw a h) : celH h pw 256 (.int .i64 a) := by
  obtain ⟨bs, hl, hb⟩ := w
  exact hb.celH 256 (wrC_at a hl)
theorem wrC_rd {pw lo n c : Nat} {bs ys : List UInt8} {a : Int} {t : TypeId} {h : Hp} (q : blk pw (wrC bs a) t h) (hb : bs.length = 256) (h1 : lo + n ≤ 256) (h2 : n ≤ c) (h3 : c ≤ 256) (hy : (bs.drop lo).take n = ys) : rdH 1 (.slice (some ⟨pw, lo, none⟩) n c) n (ys.map u8) h := by
  subst hy
  refine q.rd h2 (by omega) (by rw [wrC_len _ hb]; omega) ?_
  unfold wrC
  rw [List.drop_append_of_le_length (by simp; omega), List.take_append_of_le_length (by simp; omega), Nat.mul_one]
  simp
/-- what a writer ends as -/
def frm (bs : List UInt8) : List UInt8 := wrAll bs (sumB (crcSum (bs.take 252))) 252
theorem frm_len {bs : List UInt8} (h : bs.length = 256) : (frm bs).length = 256 := by
  unfold frm; rw [wrAll_len (by simp [sumB, h])]; exact h

/-! ### reading numbers -/
theorem wrap_wrap (x : Int) : IntKind.i64.wrap (IntKind.i64.wrap x) = IntKind.i64.wrap x := IntWalk.i64_in _ (by obtain ⟨q, h1, h2, h3⟩ := wrap_spec x; omega)
theorem getI_low (l : List UInt8) : IntKind.i64.wrap (getI l * 2 ^ 8) % 256 = 0 := (wrap_or (beNat l) 0).1
theorem getI_step {xs : List UInt8} {j : Nat} {b : UInt8} (h : xs[j]? = some b) : IntKind.i64.wrap (IntKind.i64.wrap (getI (xs.take j) * 2 ^ 8) + (b.toNat : Int)) = getI (xs.take (j + 1)) := by
  rw [List.take_add_one, h]
  show IntKind.i64.wrap (IntKind.i64.wrap (IntKind.i64.wrap (beNat (xs.take j)) * 256) + (b.toNat : Int)) = IntKind.i64.wrap (beNat (xs.take j ++ [b]) : Nat)
  rw [(wrap_or _ b).2, wrap_wrap, beNat_snoc]
  congr 1

/-! ### noughts at the ends -/
def rz : List UInt8 → Nat
  | [] => 0
  | x :: xs => if rz xs = 0 ∧ x = 0 then 0 else rz xs + 1
theorem rz_le : ∀ xs : List UInt8, rz xs ≤ xs.length
  | [] => Nat.le_refl _
  | x :: xs => by have := rz_le xs; simp only [rz, List.length_cons]; split <;> omega
theorem rz_ge : ∀ (xs : List UInt8) (j : Nat) (b : UInt8), rz xs ≤ j → xs[j]? = some b → b = 0
  | [], j, b, _, h => by simp at h
  | x :: xs, 0, b, h1, h => by
    simp only [rz] at h1
    split at h1
    · rename_i q; simp at h; exact h ▸ q.2
    · omega
  | x :: xs, j + 1, b, h1, h => by
    simp only [rz] at h1
    refine rz_ge xs j b ?_ (by simpa using h)
    split at h1 <;> omega
theorem rz_last : ∀ (xs : List UInt8) (m : Nat), rz xs = m + 1 → ∃ b, xs[m]? = some b ∧ b ≠ 0
  | [], m, h => by simp [rz] at h
  | x :: xs, m, h => by
    simp only [rz] at h
    split at h
    · omega
    · rename_i q
      cases m with
      | zero => exact ⟨x, by simp, fun e => q ⟨by omega, e⟩⟩
      | succ m => obtain ⟨b, h1, h2⟩ := rz_last xs m (by omega); exact ⟨b, by simpa using h1, h2⟩
theorem rz_is {xs : List UInt8} {m : Nat} (hm : m ≤ xs.length) (h0 : ∀ j b, m ≤ j → xs[j]? = some b → b = 0) (h1 : m = 0 ∨ ∃ b, xs[m - 1]? = some b ∧ b ≠ 0) : m = rz xs := by
  rcases Nat.lt_trichotomy m (rz xs) with q | q | q
  · obtain ⟨b, e, hb⟩ := rz_last xs (rz xs - 1) (by omega)
    exact absurd (h0 _ _ (by omega) e) hb
  · exact q
  · rcases h1 with h1 | ⟨b, e, hb⟩
    · omega
    · exact absurd (rz_ge xs _ _ (by omega) e) hb
theorem rz_zero {xs : List UInt8} : rz xs = 0 ↔ ∀ b ∈ xs, b = 0 := by
  constructor
  · intro h b hb
    obtain ⟨j, hj, rfl⟩ := List.mem_iff_getElem.1 hb
    exact rz_ge xs j _ (by omega) (List.getElem?_eq_getElem hj)
  · intro h
    exact (rz_is (Nat.zero_le _) (fun j b _ e => h b (List.mem_of_getElem? e)) (.inl rfl)).symm
def lz : List UInt8 → Nat
  | [] => 0
  | x :: xs => if x = 0 then lz xs + 1 else 0
theorem lz_le : ∀ xs : List UInt8, lz xs ≤ xs.length
  | [] => Nat.le_refl _
  | x :: xs => by have := lz_le xs; simp only [lz, List.length_cons]; split <;> omega
theorem lz_is : ∀ {xs : List UInt8} {p : Nat}, p ≤ xs.length → (∀ j b, j < p → xs[j]? = some b → b = 0) → (p = xs.length ∨ ∃ b, xs[p]? = some b ∧ b ≠ 0) → p = lz xs
  | [], p, hp, _, _ => by simp at hp; subst hp; rfl
  | x :: xs, 0, _, _, h1 => by
    rcases h1 with h1 | ⟨b, e, hb⟩
    · simp at h1
    · simp at e; subst e; simp [lz, hb]
  | x :: xs, p + 1, hp, h0, h1 => by
    have e := h0 0 x (by omega) rfl
    subst e
    have := lz_is (xs := xs) (p := p) (by simpa using hp) (fun j b hj e => h0 (j + 1) b (by omega) (by simpa using e)) (by simpa using h1)
    simp [lz, this]
theorem lz_rz {xs : List UInt8} (h : rz xs ≠ 0) : lz (xs.take (rz xs)) < rz xs := by
  obtain ⟨b, e, hb⟩ := rz_last xs (rz xs - 1) (by omega)
  have hl := rz_le xs
  rcases Nat.lt_or_ge (lz (xs.take (rz xs))) (rz xs) with q | q
  · exact q
  · have key : ∀ (ys : List UInt8) j b, j < lz ys → ys[j]? = some b → b = 0 := by
      intro ys
      induction ys with
      | nil => intro j b hj; simp [lz] at hj
      | cons y ys ih =>
        intro j b hj e
        simp only [lz] at hj
        split at hj
        · rename_i q
          cases j with
          | zero => simp at e; exact e ▸ q
          | succ j => exact ih j b (by omega) (by simpa using e)
        · omega
    exact absurd (key (xs.take (rz xs)) (rz xs - 1) b (by omega) (by rw [List.getElem?_take, if_pos (by omega)]; exact e)) hb
/-- a sector that is sound, of a kind -/
def sndP (mag sec : List UInt8) : Prop := sec.drop 252 = sumB (crcSum (sec.take 252)) ∧ sec.take 4 = mag
instance (mag sec : List UInt8) : Decidable (sndP mag sec) := by unfold sndP; exact inferInstance
theorem four {sec : List UInt8} (h : sec.length = 256) : ∃ c0 c1 c2 c3, sec.drop 252 = [c0, c1, c2, c3] := by
  have hl : (sec.drop 252).length = 4 := by simp [h]
  match hd : sec.drop 252, hl with
  | [c0, c1, c2, c3], _ => exact ⟨c0, c1, c2, c3, rfl⟩

/-! ### what writers write -/
/-- bytes, then noughts -/
def pad (l : List UInt8) : List UInt8 := l ++ List.replicate (256 - l.length) 0
theorem pad_len {l : List UInt8} (h : l.length ≤ 256) : (pad l).length = 256 := by simp [pad]; omega
theorem pad_put {l t : List UInt8} {a : Nat} (ha : a = l.length) (h : a + t.length ≤ 256) : wrAll (pad l) t a = pad (l ++ t) := by
  subst ha
  unfold wrAll pad
  rw [List.take_left' rfl, List.drop_append, List.drop_of_length_le (by omega), List.nil_append, List.drop_replicate, List.length_append]
  rw [show 256 - l.length - (l.length + t.length - l.length) = 256 - (l.length + t.length) from by omega]
theorem pad_jump {l t : List UInt8} {a : Nat} (ha : l.length ≤ a) (h : a + t.length ≤ 256) : wrAll (pad l) t a = pad (l ++ List.replicate (a - l.length) 0 ++ t) := by
  have : pad l = pad (l ++ List.replicate (a - l.length) 0) := by
    unfold pad
    rw [List.append_assoc, List.length_append, List.length_replicate, List.replicate_append_replicate]
    congr 2; omega
  rw [this, pad_put (by simp; omega) h]
/-- a sector of some bytes, with its sum -/
def sect (l : List UInt8) : List UInt8 := frm (pad l)
theorem sect_len {l : List UInt8} (h : l.length ≤ 252) : (sect l).length = 256 := frm_len (pad_len (by omega))
theorem sect_take {l : List UInt8} (h : l.length ≤ 252) : (sect l).take 252 = (pad l).take 252 := by
  unfold sect frm wrAll
  rw [List.append_assoc, List.take_append_of_le_length (by simp [pad_len (show l.length ≤ 256 by omega)]), List.take_take]
  simp
theorem sect_sum {l : List UInt8} (h : l.length ≤ 252) : (sect l).drop 252 = sumB (crcSum ((sect l).take 252)) := by
  rw [sect_take h]
  have hl := pad_len (show l.length ≤ 256 by omega)
  unfold sect frm wrAll
  rw [List.append_assoc, List.drop_append, List.drop_of_length_le (by simp [hl])]
  simp [hl, sumB]
theorem sect_head {l : List UInt8} (h : l.length ≤ 252) {p k : Nat} (hp : p + k ≤ l.length) : ((sect l).drop p).take k = (l.drop p).take k := by
  have e : ((sect l).drop p).take k = (((sect l).take 252).drop p).take k := by
    rw [List.drop_take, List.take_take]; congr 1; omega
  rw [e, sect_take h, List.drop_take, List.take_take]
  rw [show min k (252 - p) = k from by omega]
  unfold pad
  rw [List.drop_append_of_le_length (by omega), List.take_append_of_le_length (by simp; omega)]
theorem sect_rest {l : List UInt8} (h : l.length ≤ 252) : rz (((sect l).drop l.length).take (252 - l.length)) = 0 := by
  rw [rz_zero]
  intro b hb
  have e : ((sect l).drop l.length).take (252 - l.length) = (((sect l).take 252).drop l.length) := by rw [List.drop_take]
  rw [e, sect_take h, List.drop_take] at hb
  unfold pad at hb
  rw [List.drop_left' rfl] at hb
  exact (List.mem_replicate.1 (List.mem_of_mem_take hb)).2

/-! ### heads and images -/
theorem flat_len (ns : List Int) : (ns.flatMap (beN 4)).length = 4 * ns.length := by
  induction ns with
  | nil => rfl
  | cons x ns ih => simp [beN_len, ih]; omega
theorem flat_snoc {ns : List Int} {i : Nat} {x : Int} (h : ns[i]? = some x) : (ns.take i).flatMap (beN 4) ++ beN 4 x = (ns.take (i + 1)).flatMap (beN 4) := by
  rw [List.take_add_one, h]; simp
def hCnt (sec : List UInt8) : Nat := (getI ((sec.drop 24).take 2)).toNat
def hNum (sec : List UInt8) (j : Nat) : Int := getI ((sec.drop (26 + 4 * j)).take 4)
def hN (sec : List UInt8) (i : Nat) : List Value := (List.range i).map fun j => Value.int .i64 (hNum sec j)
theorem hN_succ (sec : List UInt8) (i : Nat) : hN sec i ++ [Value.int .i64 (hNum sec i)] = hN sec (i + 1) := by simp [hN, List.range_succ]
def headP (sec : List UInt8) : Prop := sndP [80, 76, 79, 71] sec ∧ (0 ≤ getI ((sec.drop 4).take 8) ∧ getI ((sec.drop 4).take 8) ≤ 1099511627776) ∧ (0 ≤ getI ((sec.drop 12).take 8) ∧ getI ((sec.drop 12).take 8) ≤ 1099511627776) ∧ (1 ≤ hCnt sec ∧ hCnt sec ≤ 40) ∧ (∀ j, j < hCnt sec → 0 ≤ hNum sec j ∧ hNum sec j ≤ 1023) ∧ rz ((sec.drop (26 + 4 * hCnt sec)).take (252 - (26 + 4 * hCnt sec))) = 0
def imgP (sec : List UInt8) : Prop := sec.drop 252 = sumB (crcSum (sec.take 252)) ∧ (1 ≤ getI (sec.take 1) ∧ getI (sec.take 1) ≤ 5) ∧ (0 ≤ getI ((sec.drop 1).take 2) ∧ getI ((sec.drop 1).take 2) ≤ 1023)
theorem cnt_is {sec : List UInt8} : ∃ m : Nat, getI ((sec.drop 24).take 2) = m ∧ hCnt sec = m := by
  have h : getI ((sec.drop 24).take 2) = beNat ((sec.drop 24).take 2) := getI_small (by simp; omega)
  exact ⟨_, h, by unfold hCnt; rw [h]; rfl⟩
end Go.Proofs.YtanejicgmgpjcaaGreatDoor
