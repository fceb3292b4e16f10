/-
  Chapter 36: the walk of hit.key; a limit's text tells the limit. Conditions: limits from 0 to 2^24, 1 to 1000 rows; strconv's table reads as it is laid.
-/
import Derived.Test.YtmfdpdnokiidlaaDoorHMore
import Derived.Test.YtmfdpdnokiidlaaDoorShelf
import Derived.Lib.AppendIntMem
import Derived.Lib.ItoaLen
namespace Go.Proofs.YtmfdpdnokiidlaaDoor
open Go.ChangeShapes Go.WideShapes Go.ChangeAt Go.RowKit
set_option linter.unusedVariables false
set_option linter.unusedSimpArgs false

def keyL : List Int → List UInt8
  | [] => []
  | n :: l => 32 :: (Lib.itoa n ++ keyL l)
theorem key_snoc (l : List Int) (n : Int) : keyL (l ++ [n]) = keyL l ++ 32 :: Lib.itoa n := by
  induction l with
  | nil => simp [keyL]
  | cons a l ih => simp only [List.cons_append, keyL, ih, List.append_assoc]
theorem key_len (l : List Int) (h : Lim l) : (keyL l).length ≤ l.length * 22 := by
  induction l with
  | nil => simp [keyL]
  | cons a l ih =>
    have h1 := ih fun x hx => h x (List.mem_cons_of_mem _ hx)
    have h2 := h a (by simp)
    have h3 := Lib.itoa_length_le a (by omega) (by omega)
    simp only [keyL, List.length_cons, List.length_append]
    omega
theorem split32 : ∀ (x y u v : List UInt8), (∀ c ∈ x, c ≠ 32) → (∀ c ∈ y, c ≠ 32) → (u = [] ∨ ∃ u', u = 32 :: u') → (v = [] ∨ ∃ v', v = 32 :: v') → x ++ u = y ++ v → x = y ∧ u = v
  | [], [], u, v, _, _, _, _, h => ⟨rfl, h⟩
  | [], d :: y, u, v, _, hy, hu, _, h => by
    rcases hu with rfl | ⟨u', rfl⟩
    · simp at h
    · simp at h
      exact absurd h.1.symm (hy d (by simp))
  | c :: x, [], u, v, hx, _, _, hv, h => by
    rcases hv with rfl | ⟨v', rfl⟩
    · simp at h
    · simp at h
      exact absurd h.1 (hx c (by simp))
  | c :: x, d :: y, u, v, hx, hy, hu, hv, h => by
    simp only [List.cons_append, List.cons.injEq] at h
    obtain ⟨h1, h2⟩ := split32 x y u v (fun e he => hx e (List.mem_cons_of_mem _ he)) (fun e he => hy e (List.mem_cons_of_mem _ he)) hu hv h.2
    exact ⟨by rw [h.1, h1], h2⟩
def valD (l : List UInt8) : Nat := l.foldl (fun a c => a * 10 + (c.toNat - 48)) 0
theorem dig_nat (d : Nat) (h : d < 10) : (UInt8.ofNat (48 + d)).toNat = 48 + d := by
  rw [UInt8.toNat_ofNat']
  omega
theorem val_dec (u : Nat) : valD (Lib.decDigits u) = u ∧ ∀ c ∈ Lib.decDigits u, c ≠ 32 := by
  induction u using Nat.strongRecOn with
  | ind u ih =>
    have hne : ∀ d, d < 10 → UInt8.ofNat (48 + d) ≠ 32 := fun d hd e => by
      have := congrArg UInt8.toNat e
      rw [dig_nat d hd] at this
      have e2 : (32 : UInt8).toNat = 32 := rfl
      omega
    by_cases h : u < 10
    · rw [Lib.decDigits_one h]
      refine ⟨?_, fun c hc => ?_⟩
      · simp only [valD, List.foldl_cons, List.foldl_nil, dig_nat u h]; omega
      · rw [List.mem_singleton] at hc; subst hc; exact hne u h
    · rw [Lib.decDigits, dif_neg h]
      obtain ⟨h1, h2⟩ := ih (u / 10) (by omega)
      refine ⟨?_, fun c hc => ?_⟩
      · unfold valD at *
        rw [List.foldl_append, h1]
        simp only [List.foldl_cons, List.foldl_nil, dig_nat _ (Nat.mod_lt u (by omega : 10 > 0))]
        omega
      · rcases List.mem_append.1 hc with hc | hc
        · exact h2 c hc
        · rw [List.mem_singleton] at hc; subst hc; exact hne _ (Nat.mod_lt u (by omega))
theorem itoa_inj {a b : Int} (ha : 0 ≤ a) (hb : 0 ≤ b) (h : Lib.itoa a = Lib.itoa b) : a = b := by
  obtain ⟨u, rfl⟩ := Int.eq_ofNat_of_zero_le ha
  obtain ⟨v, rfl⟩ := Int.eq_ofNat_of_zero_le hb
  rw [Lib.itoa_nonneg, Lib.itoa_nonneg] at h
  have := congrArg valD h
  rw [(val_dec u).1, (val_dec v).1] at this
  rw [this]
theorem itoa_no {a : Int} (ha : 0 ≤ a) : ∀ c ∈ Lib.itoa a, c ≠ 32 := by
  obtain ⟨u, rfl⟩ := Int.eq_ofNat_of_zero_le ha
  rw [Lib.itoa_nonneg]
  exact (val_dec u).2
theorem key_head (l : List Int) : keyL l = [] ∨ ∃ u, keyL l = 32 :: u := by cases l; exact .inl rfl; exact .inr ⟨_, rfl⟩
theorem key_inj : ∀ {a b : List Int}, Lim a → Lim b → keyL a = keyL b → a = b
  | [], [], _, _, _ => rfl
  | [], _ :: _, _, _, h => by simp [keyL] at h
  | _ :: _, [], _, _, h => by simp [keyL] at h
  | x :: a, y :: b, ha, hb, h => by
    simp only [keyL, List.cons.injEq, true_and] at h
    have hx := (ha x (by simp)).1
    have hy := (hb y (by simp)).1
    obtain ⟨h1, h2⟩ := split32 _ _ _ _ (itoa_no hx) (itoa_no hy) (key_head a) (key_head b) h
    rw [itoa_inj hx hy h1, key_inj (fun z hz => ha z (List.mem_cons_of_mem _ hz)) (fun z hz => hb z (List.mem_cons_of_mem _ hz)) h2]
/-- strconv's table reads as it is laid. -/
def Tab (w : World) : Prop := Lib.TabIs Tryd.prog w "internal/strconv.uint64pow10" .u64 Lib.pow10Tab
theorem tab_below {w w' : World} (h : Tab w) (hb : Below w.heap.size w w') : Tab w' := (Lib.tabBelow_of_tabIs h) w' hb
theorem info_u8 : (Tryd.prog.info? 5).map (fun i => (i.zero, i.size, i.bytes)) = some (some (.int .u8 0), 1, 1) := by kernel_rfl
theorem key_take {l : List Int} {k : Nat} {x : Int} (hx : l[k]? = some x) : keyL (l.take (k + 1)) = keyL (l.take k) ++ 32 :: Lib.itoa x := by
  obtain ⟨hlt, rfl⟩ := List.getElem?_eq_some_iff.1 hx
  rw [List.take_succ_eq_append_getElem hlt, key_snoc]
def KeyAt (w W : World) (l : List Int) (k : Nat) (v : Value) : Prop := W.ownsRow w.heap.size 5 1 v (keyL (l.take k)).length (Lib.byteCells (keyL (l.take k))) ∧ Below w.heap.size w W
set_option maxRecDepth 8192 in
set_option maxHeartbeats 4000000 in
theorem key_any (A' : Option Addr) (c' B : Nat) (lim : List Int) (w : World) (h' : RdI w B A' lim) (hB : B ≤ w.heap.size) (hlm : Lim lim) (h0 : 0 < lim.length) (hlim : lim.length ≤ 1000) (htab : Tab w) :
    Calls Tryd.prog 25 #[.slice A' lim.length c'] w fun e w' => e = .returned (.string ⟨(keyL lim).toArray⟩) ∧ Below w.heap.size w w' := by
  obtain ⟨i0, hi, hz0, hz1, hz2⟩ := info_parts info_u8
  have HI := Lib.hid hi
  have HZ := Lib.hid (And.intro hz0 (And.intro hz1 hz2))
  clear hi hz0 hz1 hz2
  have HT := Lib.hid (Lib.tabBelow_of_tabIs htab)
  have H' := Lib.hid h'
  have HLM := Lib.hid hlm
  have HKL := Lib.hid (fun k => key_len (lim.take k) fun x hx => hlm x (List.mem_of_mem_take hx))
  clear htab h' hlm
  generalize hn : lim.length = n at *
  have HN := Lib.hid hn
  clear hn
  go_enter Tryd.func25, Tryd.ntmps25
  go_wp2_with fail
  go_loopg [3, 5, 8] n (fun k2 s3 _ s8 wr => ∃ (k : Nat) (v : Value), v = s3 ∧ k + k2 = n ∧ s8 = .int .i64 k ∧ KeyAt w wr lim k v)
  case atStart => exact ⟨0, .slice none 0 0, rfl, by omega, rfl, World.ownsRow_nil _ _ _ _, Below.refl _ _⟩
  case round =>
    obtain ⟨k, v, rfl, hk, rfl, hst⟩ := hrel
    have HO := Lib.hid hst.1
    have hbel := hst.2
    clear hst
    have hkl := HKL.out k
    rw [List.length_take] at hkl
    by_cases hlt : k < n
    · have i1 : (k : Int) < (n : Int) := by omega
      have hlc : k < lim.length := by rw [HN.out]; exact hlt
      have hxk : lim[k]? = some lim[k] := List.getElem?_eq_getElem hlc
      have hmem := List.getElem_mem hlc
      obtain ⟨b, off, rfl, hb, hcx⟩ := rdI_at (rdI_below H'.out (hbel.mono hB)) hlc
      have e1 : lim.getD k 0 = lim[k] := by rw [List.getD_eq_getElem?_getD, hxk]; rfl
      rw [e1] at hcx
      clear e1
      generalize lim[k] = x at *
      obtain ⟨x0, x1⟩ := HLM.out x hmem
      have HS := Lib.hid (key_take hxk)
      clear hxk hmem hlc
      generalize hL : keyL (lim.take k) = out at *
      have HL := Lib.hid hL
      clear hL
      have hzz := hbel.size
      go_wp2_with (first | (at_builtin; refine wpList_append_cells wr rfl (.tmp 12) (.tmp 13) 71 rfl w.heap.size 5 i0 _ 1 1 Tryd.underlying71 HI.out HZ.out.1 HZ.out.2.1 HZ.out.2.2 rfl (by omega) v out.length (Lib.byteCells out) [.int .u8 32] rfl HO.out (by simp; rfl) (by simp [Act.eval, go_sem]) (by simp [Act.eval, go_sem]) (by omega) (by omega) (by omega) ?_; intro v5 w5 hown5 hb5) | fail)
      have hb5w := hbel.trans hb5
      have hz5 := hb5w.size
      refine (Tryd.strconv_AppendInt_10 w.heap.size (out.length + 1) x (by omega) (by omega) v5 _ w5 hown5 hz5 (by omega) (HT.out.on hb5w)).mono ?_
      rintro e w6 ⟨v6, rfl, hown6, hb6, -⟩
      have HO6 : Hid (KeyAt w w6 lim (k + 1) v6) := Lib.hid (by
        refine ⟨?_, hb5w.trans hb6⟩
        have e1 : keyL (lim.take (k + 1)) = out ++ 32 :: Lib.itoa x := by rw [HS.out]
        have e2 : Lib.byteCells (out ++ 32 :: Lib.itoa x) = Lib.byteCells out ++ [Value.int .u8 32] ++ Lib.byteCells (Lib.itoa x) := by simp [Lib.byteCells]
        have e3 : (out ++ 32 :: Lib.itoa x).length = out.length + 1 + (Lib.itoa x).length := by simp; omega
        rw [e1, e2, e3]
        exact hown6)
      clear hown5 hown6 hb5 HS
      go_wp2_with fail
      go_roundg (n - (k + 1))
      case rel => exact ⟨k + 1, v6, rfl, by omega, by go_num, HO6.out⟩
      case measure => omega
    · obtain rfl : k = n := by omega
      have HE : Hid (lim.take k = lim) := List.take_of_length_le (by rw [HN.out]; exact Nat.le_refl _)
      have hO := HO.out
      rw [HE.out] at hO
      have hpos : 0 < (keyL lim).length := by
        cases lim with
        | nil => have := HN.out; simp at this; omega
        | cons a l => simp [keyL]
      clear HO HE
      generalize hL : keyL lim = out at *
      rcases hO.2 with ⟨-, h0'⟩ | ⟨g, cap, cur, rfl, -, -, -, -, -, -⟩
      · omega
      · have hcv := run_convert_bytes_back (P := Tryd.prog) wr 71 9 5 ⟨g, 0, none⟩ cap out Tryd.underlying71 Tryd.underlying5 Tryd.underlying9 (fun j hj => hO.cells (g := g) rfl j _ (by simp [Lib.byteCells, hj]))
        have HLO := Lib.hid hL
        clear hL
        go_wp2_with fail
        go_ret
        exact ⟨by rw [HLO.out]; rfl, hbel⟩
end Go.Proofs.YtmfdpdnokiidlaaDoor
