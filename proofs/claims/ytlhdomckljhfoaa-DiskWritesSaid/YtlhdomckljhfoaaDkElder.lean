/-
  Plain law of DiskElder: two whole Saves, one byte turned of the newer one's slot. Conditions: the texts are short.
-/
import Derived.Test.YtlhdomckljhfoaaDkAwake
namespace Go.Proofs.Ytlhdomckljhfoaa

def disk1 (s : List UInt8) : List UInt8 := doP zeroD (savesN 0 1 s) ((secN s.length + 1 : Nat) : Int) 0
def disk2 (s t : List UInt8) : List UInt8 := doP (disk1 s) (savesN 160 2 t) ((secN t.length + 1 : Nat) : Int) 0
theorem disk1_len (s : List UInt8) : (disk1 s).length = 20480 := by unfold disk1; rw [doP_len, zeroD_len]
theorem disk2_len (s t : List UInt8) : (disk2 s t).length = 20480 := by unfold disk2; rw [doP_len, disk1_len]
theorem disk1_told (s : List UInt8) (hs : s.length ≤ 8192) : toldP (disk1 s) = (0, 1, s) := first_told s hs _ _ (by rw [savesN_len]; omega)
theorem disk1_save (s t : List UInt8) (hs : s.length ≤ 8192) (ht : t.length ≤ 8192) : saveP (disk1 s) t = (savesN 160 2 t, 0) := by
  have hf : fromP (disk1 s) = 160 := by unfold fromP; rw [disk1_told s hs]; rfl
  have h := saveP_yes (disk1 s) t (disk1_len s) ht (by rw [disk1_told s hs]; show (1 : UInt64) ≠ 18446744073709551615; decide)
  rw [hf, disk1_told s hs] at h
  exact h
theorem disk2_eq (s t : List UInt8) : disk2 s t = doTo (disk1 s) (savesN 160 2 t) (secN t.length + 1) 0 (secN t.length + 1) := by
  unfold disk2
  rw [doP_whole _ _ _ _ (by rw [savesN_len]; omega), savesN_len]
  rfl
theorem disk2_lo (s t : List UInt8) (hs : s.length ≤ 8192) (ht : t.length ≤ 8192) : slotP ((disk2 s t).take 10240) = some (1, s) := by
  rw [take_lo, disk2_eq, saved_other (disk1 s) t (disk1_len s) 160 0 (.inr ⟨rfl, rfl⟩) ht 2 _ _ (by omega), ← take_lo]
  exact (first_save s hs _ _ (by rw [savesN_len]; omega)).1
theorem disk2_parts (s t : List UInt8) (ht : t.length ≤ 8192) : ((disk2 s t).drop 10240).take 64 = headP 2 t ∧ (((disk2 s t).drop 10240).drop 64).take t.length = t := by
  have h := saved_parts (disk1 s) t (disk1_len s) 160 (.inr rfl) ht 2 (secN t.length + 1) 0 (by omega)
  rw [← disk2_eq, ← drop_hi _ (disk2_len s t)] at h
  exact h

theorem elder_told (s t : List UInt8) (hs : s.length ≤ 400) (ht : t.length ≤ 400) (k : Nat) (hk : k < 600) (x c : UInt8) (hx : (disk2 s t)[10240 + k]? = some x) (hc : c ≠ 0) :
    toldP ((disk2 s t).set (10240 + k) (x ^^^ c)) = if k < 64 + t.length then (0, 1, s) else (1, 2, t) := by
  obtain ⟨p1, p2⟩ := disk2_parts s t (by omega)
  have hlo := disk2_lo s t (by omega) (by omega)
  have hl := disk2_len s t
  have hbl : ((disk2 s t).drop 10240).length = 10240 := by simp; omega
  have hb : ((disk2 s t).drop 10240)[k]? = some x := by rw [List.getElem?_drop]; exact hx
  have hne : ((disk2 s t).drop 10240)[k]? ≠ some (x ^^^ c) := by
    rw [hb]
    intro e
    injection e with e
    apply hc
    have : x ^^^ x = x ^^^ (x ^^^ c) := by rw [← e]
    rw [← UInt8.xor_assoc, UInt8.xor_self, UInt8.zero_xor] at this
    exact this.symm
  have e1 : ((disk2 s t).set (10240 + k) (x ^^^ c)).take 10240 = (disk2 s t).take 10240 := by
    rw [List.take_set, List.set_eq_of_length_le (by simp; omega)]
  have e2 : ((disk2 s t).set (10240 + k) (x ^^^ c)).drop 10240 = ((disk2 s t).drop 10240).set k (x ^^^ c) := by
    rw [List.drop_set, if_neg (by omega), show 10240 + k - 10240 = k from by omega]
  unfold toldP
  rw [e1, e2, hlo]
  by_cases h1 : k < 64 + t.length
  · rw [if_pos h1]
    have hn : slotP (((disk2 s t).drop 10240).set k (x ^^^ c)) = none := by
      by_cases h2 : k < 64
      · exact slotP_head _ hbl (by rw [p1]; exact formB_head 2 t) k h2 _ hne
      · exact slotP_text _ hbl 2 t (slotP_of _ 2 t (by omega) p1 p2) k (by omega) h1 _ hne
    rw [hn]
    rfl
  · rw [if_neg h1, slotP_else _ 2 t (by omega) p1 p2 k (by omega)]
    rfl
theorem bi_ofNat {z : Int} (h : 0 ≤ z ∧ z ≤ 255) : bi (UInt8.ofNat z.toNat) = z := by
  unfold bi; rw [UInt8.toNat_ofNat']; omega
theorem xor8 (c d : UInt8) : bits .xor .u8 (bi c) (bi d) = bi (c ^^^ d) := by
  unfold bi
  rw [u8_xor_nat _ _ c.toNat_lt d.toNat_lt, UInt8.toNat_xor]
theorem savesN_last (fr : Nat) (n : UInt64) (s : List UInt8) : (savesN fr n s)[secN s.length]? = some ((fr : Int), headP n s) := by
  unfold savesN
  rw [List.getElem?_append_right (by rw [chunks_len]; omega), chunks_len, Nat.sub_self]; rfl
end Go.Proofs.Ytlhdomckljhfoaa
