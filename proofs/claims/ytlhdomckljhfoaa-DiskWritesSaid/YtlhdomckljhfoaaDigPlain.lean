/-
  Plain law of chapter 9: the sum of bytes as a function on UInt64, how the model's integer operations spell it, and that one changed byte changes it. Conditions: none.
-/
import Derived.Laws.BitsAllLaws
import Derived.Laws.Bits64
namespace Go.Proofs.Ytlhdomckljhfoaa

/-- The number of a uint64, of a byte: behind a name, that the walk does not open. -/
def ui (h : UInt64) : Int := (h.toNat : Int)
def bi (c : UInt8) : Int := (c.toNat : Int)

def rot13 (h : UInt64) : UInt64 := h <<< 13 ||| h >>> 51
def step (h : UInt64) (c : UInt8) : UInt64 := rot13 (h ^^^ c.toUInt64) * 18397679294719823053
def fin (h : UInt64) : UInt64 := h ^^^ (h >>> 29)
def sumFrom (h : UInt64) (l : List UInt8) : UInt64 := l.foldl step h
def sum (l : List UInt8) : UInt64 := fin (sumFrom 11400714819323198485 l)

theorem ui_bd (a : UInt64) : 0 ≤ ui a ∧ ui a ≤ 18446744073709551615 := by
  unfold ui; have := a.toNat_lt; omega
theorem bi_bd (a : UInt8) : 0 ≤ bi a ∧ bi a ≤ 255 := by
  unfold bi; have := a.toNat_lt; omega

theorem xor64 (a b : UInt64) : bits .xor .u64 (a.toNat : Int) (b.toNat : Int) = ((a ^^^ b).toNat : Int) := by
  rw [u64_xor_nat _ _ a.toNat_lt b.toNat_lt, UInt64.toNat_xor]
theorem or64 (a b : UInt64) : bits .or .u64 (a.toNat : Int) (b.toNat : Int) = ((a ||| b).toNat : Int) := by
  rw [u64_or_nat _ _ a.toNat_lt b.toNat_lt, UInt64.toNat_or]
theorem and64 (a b : UInt64) : bits .and .u64 (a.toNat : Int) (b.toNat : Int) = ((a &&& b).toNat : Int) := by
  rw [u64_and_nat _ _ a.toNat_lt b.toNat_lt, UInt64.toNat_and]
theorem shl64 (a : UInt64) (k : Nat) (n : UInt64) (hn : n.toNat = k) (hk : k < 64) : IntKind.u64.wrap ((a.toNat : Int) * ((2 ^ k : Nat) : Int)) = ((a <<< n).toNat : Int) := by
  rw [IntKind.wrap_u64, UInt64.toNat_shiftLeft, hn, Nat.mod_eq_of_lt hk, Nat.shiftLeft_eq, Int.natCast_emod, Int.natCast_mul]
  rfl
theorem shr64 (a : UInt64) (k : Nat) (n : UInt64) (hn : n.toNat = k) (hk : k < 64) : (a.toNat : Int) / ((2 ^ k : Nat) : Int) = ((a >>> n).toNat : Int) := by
  rw [UInt64.toNat_shiftRight, hn, Nat.mod_eq_of_lt hk, Nat.shiftRight_eq_div_pow, Int.natCast_ediv]
theorem mul64 (a b : UInt64) : IntKind.u64.wrap ((a.toNat : Int) * (b.toNat : Int)) = ((a * b).toNat : Int) := by
  rw [IntKind.wrap_u64, UInt64.toNat_mul, Int.natCast_emod, Int.natCast_mul]
  rfl

/-- A turn to the left by 13 places, as the walk spells it. -/
theorem rot_eq (a : UInt64) : bits .or .u64 (IntKind.u64.wrap (ui a * 8192)) (ui a / 2251799813685248) = ui (rot13 a) := by
  unfold ui
  have h1 := shl64 a 13 13 rfl (by omega)
  have h2 := shr64 a 51 51 rfl (by omega)
  have e1 : ((2 ^ 13 : Nat) : Int) = 8192 := by decide
  have e2 : ((2 ^ 51 : Nat) : Int) = 2251799813685248 := by decide
  rw [e1] at h1
  rw [e2] at h2
  rw [h1, h2, or64]
  rfl
theorem step_xor (h : UInt64) (c : UInt8) : bits .xor .u64 (ui h) (bi c) = ui (h ^^^ c.toUInt64) := by
  have := xor64 h c.toUInt64
  rwa [UInt8.toNat_toUInt64] at this
theorem step_mul (h : UInt64) (c : UInt8) : IntKind.u64.wrap (ui (rot13 (h ^^^ c.toUInt64)) * 18397679294719823053) = ui (step h c) :=
  mul64 (rot13 (h ^^^ c.toUInt64)) 18397679294719823053
theorem fin_eq (h : UInt64) : bits .xor .u64 (ui h) (ui h / 536870912) = ui (fin h) := by
  have h2 := shr64 h 29 29 rfl (by omega)
  have e2 : ((2 ^ 29 : Nat) : Int) = 536870912 := by decide
  rw [e2] at h2
  unfold ui
  rw [h2, xor64]
  rfl
theorem ui_inj {a b : UInt64} (h : ui a = ui b) : a = b := UInt64.toNat_inj.1 (by unfold ui at h; omega)
theorem bi_inj {a b : UInt8} (h : bi a = bi b) : a = b := UInt8.toNat_inj.1 (by unfold bi at h; omega)
theorem ui_beq (a b : UInt64) : (ui a == ui b) = decide (a = b) := by
  by_cases h : a = b
  · simp [h]
  · simp [h]; exact fun e => h (ui_inj e)

/-! One changed byte changes the sum: each step can be undone. -/
theorem rot13_back (x : UInt64) : (rot13 x) >>> 13 ||| (rot13 x) <<< 51 = x := by
  unfold rot13
  apply UInt64.toBitVec_inj.1
  simp only [UInt64.toBitVec_or, UInt64.toBitVec_shiftRight, UInt64.toBitVec_shiftLeft]
  generalize x.toBitVec = v
  apply BitVec.eq_of_getLsbD_eq
  intro i hi
  simp only [BitVec.getLsbD_or]
  have e : v.getLsbD (51 + (13 + i)) = false := BitVec.getLsbD_of_ge _ _ (by omega)
  by_cases h1 : i < 51
  · simp [h1, show 13 + i < 64 from by omega, e, show ¬ 13 + i < 13 from by omega]
    rw [BitVec.getLsbD_eq_getElem hi]
  · have e2 : ¬ 13 + i < 64 := by omega
    simp [h1, e2]
    simp [e, hi, show i - 51 < 13 from by omega, show 51 + (i - 51) = i from by omega]
theorem rot13_inj {a b : UInt64} (h : rot13 a = rot13 b) : a = b := by
  rw [← rot13_back a, h, rot13_back b]
theorem fin_back (x : UInt64) : fin x ^^^ (fin x >>> 29) ^^^ (fin x >>> 58) = x := by
  unfold fin
  apply UInt64.toBitVec_inj.1
  simp only [UInt64.toBitVec_xor, UInt64.toBitVec_shiftRight]
  generalize x.toBitVec = v
  apply BitVec.eq_of_getLsbD_eq
  intro i hi
  have e : v.getLsbD (29 + (58 + i)) = false := BitVec.getLsbD_of_ge _ _ (by omega)
  simp [e, show 29 + (29 + i) = 58 + i from by omega]
theorem fin_inj {a b : UInt64} (h : fin a = fin b) : a = b := by
  rw [← fin_back a, h, fin_back b]
theorem mul_inj {a b : UInt64} (h : a * 18397679294719823053 = b * 18397679294719823053) : a = b := by
  have e : ∀ x : UInt64, x * 18397679294719823053 * 5725274745694666757 = x := by
    intro x
    rw [UInt64.mul_assoc, show (18397679294719823053 : UInt64) * 5725274745694666757 = 1 from by decide +kernel, UInt64.mul_one]
  rw [← e a, h, e b]
theorem xor_inj {a b c : UInt64} (h : a ^^^ c = b ^^^ c) : a = b := by
  have : a ^^^ c ^^^ c = b ^^^ c ^^^ c := by rw [h]
  simpa [UInt64.xor_assoc] using this
theorem xor_inj' {a b c : UInt64} (h : c ^^^ a = c ^^^ b) : a = b := by
  rw [UInt64.xor_comm c a, UInt64.xor_comm c b] at h
  exact xor_inj h
theorem step_inj {a b : UInt64} {c : UInt8} (h : step a c = step b c) : a = b := xor_inj (rot13_inj (mul_inj h))
theorem step_inj' {a : UInt64} {c d : UInt8} (h : step a c = step a d) : c = d := by
  have := xor_inj' (rot13_inj (mul_inj h))
  have h2 : c.toUInt64.toUInt8 = d.toUInt64.toUInt8 := by rw [this]
  simpa using h2
theorem sumFrom_inj {l : List UInt8} : ∀ {a b : UInt64}, sumFrom a l = sumFrom b l → a = b := by
  induction l with
  | nil => intro a b h; exact h
  | cons c l ih => intro a b h; exact step_inj (ih h)
theorem sumFrom_append (h : UInt64) (l m : List UInt8) : sumFrom h (l ++ m) = sumFrom (sumFrom h l) m := by
  unfold sumFrom; rw [List.foldl_append]
theorem sum_one (l m : List UInt8) (c d : UInt8) : sum (l ++ c :: m) = sum (l ++ d :: m) ↔ c = d := by
  refine ⟨fun h => ?_, fun h => by rw [h]⟩
  have h := fin_inj h
  rw [sumFrom_append, sumFrom_append] at h
  exact step_inj' (sumFrom_inj (l := m) h)
theorem sum_set (l : List UInt8) (k : Nat) (hk : k < l.length) (d : UInt8) : sum (l.set k d) = sum l ↔ d = l[k] := by
  have e1 : l.set k d = l.take k ++ d :: l.drop (k + 1) := List.set_eq_take_append_cons_drop.trans (by rw [if_pos hk])
  have e2 : l = l.take k ++ l[k] :: l.drop (k + 1) := by
    rw [← List.drop_eq_getElem_cons hk, List.take_append_drop]
  rw [e1]
  have := sum_one (l.take k) (l.drop (k + 1)) d l[k]
  rwa [← e2] at this

/-! Read: 16 digits of base 16. -/
def hexV (c : UInt8) : Option UInt64 :=
  if 48 ≤ c.toNat ∧ c.toNat ≤ 57 then some (c - 48).toUInt64 else if 97 ≤ c.toNat ∧ c.toNat ≤ 102 then some (c - 97 + 10).toUInt64 else none
def readStep (n : UInt64) (c : UInt8) : Option UInt64 := (hexV c).map fun d => n <<< 4 ||| d
def readL (l : List UInt8) : Option UInt64 := l.foldlM readStep 0
def readB (l : List UInt8) : UInt64 × Bool :=
  if l.length = 16 then (match readL l with | some n => (n, true) | none => (0, false)) else (0, false)

theorem readL_snoc (l : List UInt8) (k : Nat) (c : UInt8) (n : UInt64) (hc : l[k]? = some c) (h : readL (l.take k) = some n) : readL (l.take (k + 1)) = readStep n c := by
  obtain ⟨hlt, rfl⟩ := List.getElem?_eq_some_iff.1 hc
  unfold readL at h ⊢
  rw [List.take_succ_eq_append_getElem hlt, List.foldlM_append, h]
  simp
theorem readL_none (l : List UInt8) (k : Nat) (c : UInt8) (n : UInt64) (hc : l[k]? = some c) (h : readL (l.take k) = some n) (hv : hexV c = none) : readL l = none := by
  obtain ⟨hlt, rfl⟩ := List.getElem?_eq_some_iff.1 hc
  have e2 : l = l.take k ++ l[k] :: l.drop (k + 1) := by rw [← List.drop_eq_getElem_cons hlt, List.take_append_drop]
  unfold readL at h ⊢
  rw [e2, List.foldlM_append, h]
  generalize l.drop (k + 1) = m
  generalize l[k] = c at hv
  show List.foldlM readStep n (c :: m) = none
  rw [List.foldlM_cons, readStep, hv]
  rfl
theorem or_digit (n : UInt64) (d : UInt8) : bits .or .u64 (IntKind.u64.wrap (ui n * 16)) (bi d) = ui (n <<< 4 ||| d.toUInt64) := by
  have h1 := shl64 n 4 4 rfl (by omega)
  have e1 : ((2 ^ 4 : Nat) : Int) = 16 := by decide
  rw [e1] at h1
  unfold ui bi
  rw [h1]
  have := or64 (n <<< 4) d.toUInt64
  rwa [UInt8.toNat_toUInt64] at this
theorem dig_lo {c : UInt8} (h1 : 48 ≤ c.toNat) (h2 : c.toNat ≤ 57) : hexV c = some (c - 48).toUInt64 ∧ bi (c - 48) = (c.toNat : Int) - 48 := by
  refine ⟨by unfold hexV; rw [if_pos ⟨h1, h2⟩], ?_⟩
  unfold bi
  rw [UInt8.toNat_sub_of_le _ _ (by rw [UInt8.le_iff_toNat_le]; exact h1)]
  have : (48 : UInt8).toNat = 48 := rfl
  omega
theorem dig_hi {c : UInt8} (h1 : 97 ≤ c.toNat) (h2 : c.toNat ≤ 102) : hexV c = some (c - 97 + 10).toUInt64 ∧ bi (c - 97 + 10) = (c.toNat : Int) - 97 + 10 := by
  refine ⟨by unfold hexV; rw [if_neg (by omega), if_pos ⟨h1, h2⟩], ?_⟩
  unfold bi
  have e1 : (c - 97).toNat = c.toNat - 97 := by
    rw [UInt8.toNat_sub_of_le _ _ (by rw [UInt8.le_iff_toNat_le]; exact h1)]
    rfl
  rw [UInt8.toNat_add, e1]
  have : (10 : UInt8).toNat = 10 := rfl
  omega
theorem dig_no {c : UInt8} (h : ¬ (48 ≤ c.toNat ∧ c.toNat ≤ 57)) (h' : ¬ (97 ≤ c.toNat ∧ c.toNat ≤ 102)) : hexV c = none := by
  unfold hexV; rw [if_neg h, if_neg h']

/-! Pair: the 16 bytes of two numbers, the most significant one first. -/
def bt (n : UInt64) (k : Nat) : UInt8 := UInt8.ofNat (n.toNat / 2 ^ (8 * k))
def be (n : UInt64) : List UInt8 := (List.range 8).map fun j => bt n (7 - j)
def pairL (a b : UInt64) : List UInt8 := be a ++ be b
def pair (a b : UInt64) : UInt64 := sum (pairL a b)
def root (l : List UInt64) : UInt64 := l.foldl pair (sum [])
theorem be_len (n : UInt64) : (be n).length = 8 := by simp [be]
theorem pairL_len (a b : UInt64) : (pairL a b).length = 16 := by simp [pairL, be_len]
theorem bt_eq (n : UInt64) (k : Nat) : ui n / 2 ^ (8 * k) % 256 = bi (bt n k) := by
  unfold ui bi bt
  have e : ((2 : Int) ^ (8 * k)) = ((2 ^ (8 * k) : Nat) : Int) := by simp
  rw [e, UInt8.toNat_ofNat']
  simp [Int.natCast_ediv]
theorem be_at (n : UInt64) (k : Nat) (hk : k < 8) : (be n)[k]? = some (bt n (7 - k)) := by simp [be, hk]
theorem pairL_lo (a b : UInt64) (k : Nat) (hk : k < 8) : (pairL a b)[8 * 0 + k]? = some (bt a (7 - k)) := by
  unfold pairL
  rw [List.getElem?_append_left (by rw [be_len]; omega), Nat.mul_zero, Nat.zero_add, be_at a k hk]
theorem pairL_hi (a b : UInt64) (k : Nat) (hk : k < 8) : (pairL a b)[8 * 1 + k]? = some (bt b (7 - k)) := by
  unfold pairL
  rw [List.getElem?_append_right (by rw [be_len]; omega), be_len, show 8 * 1 + k - 8 = k from by omega, be_at b k hk]
theorem root_snoc (l : List UInt64) (n : UInt64) : root (l ++ [n]) = pair (root l) n := by
  unfold root; rw [List.foldl_append]; rfl
theorem root_two (l : List UInt64) (a b : UInt64) : root (l ++ [a, b]) = pair (pair (root l) a) b := by
  rw [show l ++ [a, b] = (l ++ [a]) ++ [b] by simp, root_snoc, root_snoc]
end Go.Proofs.Ytlhdomckljhfoaa
