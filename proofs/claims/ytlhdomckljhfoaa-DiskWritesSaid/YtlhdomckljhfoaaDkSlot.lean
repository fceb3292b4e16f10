/-
  The walks of chapter 40's look at a slot and at a disk, and of Load, the program's and the reference's. Conditions: the string has the bytes of a slot, of a disk.
-/
import Derived.Test.YtlhdomckljhfoaaDkZero
namespace Go.Proofs.Ytlhdomckljhfoaa
open Go.ChangeShapes Go.WideShapes Go.ChangeAt Go.RowKit
set_option linter.unusedVariables false
set_option linter.unusedSimpArgs false

theorem ext_dt (s : ByteArray) (a b : Nat) : (s.extract a b).data.toList = (s.data.toList.drop a).take (b - a) := by
  rw [Lib.extract_data]
theorem ext_t (s : ByteArray) (b : Nat) : (s.extract 0 b).data.toList = s.data.toList.take b := by
  rw [ext_dt]; simp

def optN (o : Option (UInt64 × List UInt8)) : UInt64 := match o with | some x => x.1 | none => 0
def optS (o : Option (UInt64 × List UInt8)) : List UInt8 := match o with | some x => x.2 | none => []
/-- What the look at a slot hands back. -/
def SlotP (b : List UInt8) (w : World) (e : Ending) (w' : World) : Prop :=
  (∃ n t ok, e = .returned (.tuple #[.int .u64 (ui n), .string ⟨t.toArray⟩, .bool ok]) ∧ ((ok = true ∧ slotP b = some (n, t)) ∨ (ok = false ∧ slotP b = none))) ∧ Below w.heap.size w w'
/-- The reference's: nothing where it is not whole. -/
def RSlotP (b : List UInt8) (w : World) (e : Ending) (w' : World) : Prop :=
  e = .returned (.tuple #[.int .u64 (ui (optN (slotP b))), .string ⟨(optS (slotP b)).toArray⟩, .bool (slotP b).isSome]) ∧ Below w.heap.size w w'

theorem take_z (s : ByteArray) (z : Int) (w : World) (hs : s.size ≤ 1073741824) (hz : ui (num s.data.toList) = z) :
    Calls Try.prog 34 #[.string s] w fun e w' => e = .returned (.int .u64 z) ∧ w = w' := by
  subst hz; exact take_any s w (by unfold maxLen; omega)
theorem number_z (s : ByteArray) (z : Int) (w : World) (hs : s.size ≤ 1073741824) (hz : ui (num s.data.toList) = z) :
    Calls Try.prog 36 #[.string s] w fun e w' => e = .returned (.int .u64 z) ∧ w = w' := by
  subst hz; exact number_any s w (by unfold maxLen; omega)
theorem ext_size (s : ByteArray) (a b c : Nat) (h : b ≤ a + c) : (s.extract a b).size ≤ c := by rw [ByteArray.size_extract]; omega
theorem headed_z (n : UInt64) (z : Int) (s t : ByteArray) (w : World) (hs : s.size ≤ 1073741824) (hz : ui n = z) (ht : t = ⟨(headP n s.data.toList).toArray⟩) :
    Calls Try.prog 25 #[.int .u64 z, .string s] w fun e w' => e = .returned (.string t) ∧ Below w.heap.size w w' := by
  subst hz ht; exact headed_any n s w hs
theorem slotP_at (b : List UInt8) (h : ¬ 10176 < (num ((b.drop 8).take 4)).toNat) :
    slotP b = if headP (num (b.take 8)) ((b.drop 64).take (num ((b.drop 8).take 4)).toNat) = b.take 64 then some (num (b.take 8), (b.drop 64).take (num ((b.drop 8).take 4)).toNat) else none := by
  unfold slotP; rw [if_neg h]
theorem toArr (t : ByteArray) : (⟨t.data.toList.toArray⟩ : ByteArray) = t := by
  obtain ⟨a⟩ := t; simp
theorem toArr_eq (x y : List UInt8) : ((⟨x.toArray⟩ : ByteArray) = ⟨y.toArray⟩) ↔ x = y := by simp

set_option maxHeartbeats 1000000 in
theorem whole_any (s : ByteArray) (w : World) (hs : s.size = 10240) :
    Calls Try.prog 28 #[.string s] w (SlotP s.data.toList w) := by
  have hl : s.data.toList.length = 10240 := by rw [len_size]; exact hs
  have hs1 : 10240 ≤ s.size := by omega
  have hs2 : s.size ≤ 10240 := by omega
  clear hs
  obtain ⟨m, hm⟩ : ∃ m : Nat, (num ((s.data.toList.drop 8).take 4)).toNat = m := ⟨_, rfl⟩
  have HT : Hid (ui (num (s.extract 8 12).data.toList) = (m : Int)) := by show _ = _; rw [ext_dt, ← hm]; rfl
  by_cases hn : 10176 < m
  · have HS := Lib.hid (slotP_no1 s.data.toList (by rw [hm]; exact hn))
    clear hm hl
    go_enter Try.func28, Try.ntmps28
    go_wp2_with fail
    refine (take_z _ _ _ (ext_size _ _ _ _ (by omega)) HT.out).mono ?_
    rintro e w' ⟨rfl, rfl⟩
    go_wp2_with fail
    refine bodyPost_ret (v := .tuple #[.int .u64 (ui 0), .string ⟨([] : List UInt8).toArray⟩, .bool false]) (by simp [results, Try.results28, go_sem]; rfl) rfl ⟨⟨0, [], false, rfl, .inr ⟨rfl, HS.out⟩⟩, Below.refl _ _⟩
  · have hsl := slotP_at s.data.toList (by rw [hm]; exact hn)
    rw [hm] at hsl
    have HM : Hid (ui (num (s.extract 0 8).data.toList) = ui (num (s.data.toList.take 8))) := by show _ = _; rw [ext_t]
    generalize num (s.data.toList.take 8) = M at *
    obtain ⟨x, hx⟩ : ∃ x : ByteArray, s.extract 64 (64 + m) = x := ⟨_, rfl⟩
    have hxl : x.data.toList = (s.data.toList.drop 64).take m := by rw [← hx, ext_dt, show 64 + m - 64 = m from by omega]
    have hxs : x.size ≤ 1073741824 := by rw [← hx]; exact ext_size _ _ _ _ (by omega)
    rw [← hxl] at hsl
    obtain ⟨h64, hh64⟩ : ∃ h : ByteArray, s.extract 0 64 = h := ⟨_, rfl⟩
    have h64l : h64.data.toList = s.data.toList.take 64 := by rw [← hh64, ext_t]
    obtain ⟨t, ht⟩ : ∃ t : ByteArray, t = ⟨(headP M x.data.toList).toArray⟩ := ⟨_, rfl⟩
    have HTT := Lib.hid ht
    have hte : (headP M x.data.toList = s.data.toList.take 64) ↔ t = h64 := by
      rw [ht, ← h64l]
      constructor
      · intro h; rw [h, toArr]
      · intro h; rw [← h]
    have HSL := Lib.hid hsl
    have HTE := Lib.hid hte
    have HX := Lib.hid hx
    have HH := Lib.hid hh64
    clear hsl hte hxl h64l ht hl hm hx hh64
    have w1 : IntKind.i64.wrap (m : Int) = m := IntWalk.i64_in _ (by omega)
    have w2 : IntKind.i64.wrap (64 + (m : Int)) = 64 + m := IntWalk.i64_in _ (by omega)
    have w3 : (64 + (m : Int)).toNat = 64 + m := by omega
    have i1 : 64 + m ≤ s.size := by omega
    go_enter Try.func28, Try.ntmps28
    go_wp2_with fail
    refine (take_z _ _ _ (ext_size _ _ _ _ (by omega)) HT.out).mono ?_
    rintro e w' ⟨rfl, rfl⟩
    go_wp2_with fail
    go_quiet ((go_at_call 34; exact quiet_left (take_z _ _ _ (ext_size _ _ _ _ (by omega)) HM.out)))
    rw [HX.out]
    have hbq : Below w.heap.size w (w.drewN nq) := below_drewN (Below.refl _ _) nq
    generalize w.drewN nq = wq at *
    clear HT HM w1 w2 w3 i1
    go_wp2_with fail
    have hbd : Below w.heap.size w wq.drew := below_drewN hbq 1
    have hcall : ∀ W, Below w.heap.size w W → Calls Try.prog 25 #[.int .u64 (ui M), .string x] W fun e w' => e = .returned (.string t) ∧ Below w.heap.size w w' := fun W hW => (headed_z M _ x t W hxs rfl HTT.out).mono fun e w' ⟨h1, h2⟩ => ⟨h1, hW.trans (h2.mono hW.size)⟩
    obtain ⟨ok, hok⟩ : ∃ ok : Bool, (t.toList == (s.extract 0 64).toList) = ok := ⟨_, rfl⟩
    have HOK : Hid ((ok = true ∧ slotP s.data.toList = some (M, x.data.toList)) ∨ (ok = false ∧ slotP s.data.toList = none)) := by
      show _ ∨ _
      rw [HSL.out]
      rw [HH.out, Lib.toList_data, Lib.toList_data] at hok
      by_cases h : t = h64
      · rw [if_pos (HTE.out.2 h)]
        subst h
        simp at hok
        exact .inl ⟨hok, rfl⟩
      · rw [if_neg (fun e => h (HTE.out.1 e))]
        refine .inr ⟨?_, rfl⟩
        rw [← hok, beq_eq_false_iff_ne]
        intro e
        exact h (ByteArray.ext (Array.toList_inj.1 e))
    clear HSL HTE
    have i2 : (64 : Int) ≤ (s.size : Int) := by omega
    go_region_held3 (fun W => Below w.heap.size w W) (first | assumption) (first | (go_at_call 25; refine (hcall _ ?_).mono ?_; assumption; rintro e w' ⟨rfl, hb'⟩))
    all_goals
      go_wp2_with fail
      refine bodyPost_ret (v := .tuple #[.int .u64 (ui M), .string x, .bool ok]) (by simp [results, Try.results28, go_sem]) rfl ⟨⟨M, x.data.toList, ok, by rw [toArr], HOK.out⟩, by assumption⟩

theorem ui_ne {a b : UInt64} (h : a ≠ b) : (ui a != ui b) = true := by rw [bne_iff_ne]; exact fun e => h (ui_inj e)
theorem ui_eq {a b : UInt64} (h : a = b) : (ui a != ui b) = false := by subst h; simp
theorem rheaded_z (s : ByteArray) (z : Bool) (w : World) (hs : s.size = 64) (hz : formB s.data.toList = z) :
    Calls Try.prog 35 #[.string s] w fun e w' => e = .returned (.bool z) ∧ ∃ n, w' = w.drewN n := by
  subst hz; exact rheaded_any s w hs
theorem rnone {w w' : World} {b : List UInt8} (h : slotP b = none) (hb : Below w.heap.size w w') :
    RSlotP b w (.returned (.tuple #[.int .u64 0, .string ⟨#[]⟩, .bool false])) w' := by
  refine ⟨?_, hb⟩
  rw [h]; rfl
theorem rsome {w w' : World} {b : List UInt8} {n : UInt64} {x : ByteArray} (h : slotP b = some (n, x.data.toList)) (hb : Below w.heap.size w w') :
    RSlotP b w (.returned (.tuple #[.int .u64 (ui n), .string x, .bool true])) w' := by
  refine ⟨?_, hb⟩
  rw [h]; unfold optN optS; simp only [toArr]; rfl

set_option maxHeartbeats 1000000 in
theorem rslot_any (s : ByteArray) (w : World) (hs : s.size = 10240) :
    Calls Try.prog 29 #[.string s] w (RSlotP s.data.toList w) := by
  have hl : s.data.toList.length = 10240 := by rw [len_size]; exact hs
  have hs1 : 10240 ≤ s.size := by omega
  have hs2 : s.size ≤ 10240 := by omega
  have hsz64 : (s.extract 0 64).size = 64 := by rw [ByteArray.size_extract]; omega
  clear hs
  obtain ⟨fm, hfm⟩ : ∃ fm : Bool, formB (s.data.toList.take 64) = fm := ⟨_, rfl⟩
  have HF : Hid (formB (s.extract 0 64).data.toList = fm) := by show _ = _; rw [ext_t, hfm]
  have HZ := Lib.hid hsz64
  clear hsz64
  have i2 : (64 : Int) ≤ (s.size : Int) := by omega
  by_cases hf : fm = true
  · subst hf
    obtain ⟨m, hm⟩ : ∃ m : Nat, (num ((s.data.toList.drop 8).take 4)).toNat = m := ⟨_, rfl⟩
    have HT : Hid (ui (num (s.extract 8 12).data.toList) = (m : Int)) := by show _ = _; rw [ext_dt, ← hm]; rfl
    have HM : Hid (ui (num (s.extract 0 8).data.toList) = ui (num (s.data.toList.take 8))) := by show _ = _; rw [ext_t]
    have HU : Hid (ui (num (s.extract 12 20).data.toList) = ui (num ((s.data.toList.drop 12).take 8))) := by show _ = _; rw [ext_dt]
    have cHM := fun W => number_z (s.extract 0 8) _ W (ext_size _ _ _ _ (by omega)) HM.out
    have cHT := fun W => number_z (s.extract 8 12) _ W (ext_size _ _ _ _ (by omega)) HT.out
    have cHU := fun W => number_z (s.extract 12 20) _ W (ext_size _ _ _ _ (by omega)) HU.out
    clear HM HT HU
    by_cases hn : 10176 < m
    · have HS := Lib.hid (slotP_no1 s.data.toList (by rw [hm]; exact hn))
      clear hm hl hfm
      generalize num (s.data.toList.take 8) = M at *
      generalize num ((s.data.toList.drop 12).take 8) = U at *
      go_enter Try.func29, Try.ntmps29
      go_wp2_with fail
      refine (rheaded_z _ true _ HZ.out HF.out).mono ?_
      rintro e w' ⟨rfl, n1, rfl⟩
      have hbq : Below w.heap.size w (w.drewN n1) := below_drewN (Below.refl _ _) n1
      generalize w.drewN n1 = wq at *
      go_wp2_with fail
      go_quiet ((first
        | (go_at_call 36; (with_reducible exact quiet_left (cHM _)))
        | (go_at_call 36; (with_reducible exact quiet_left (cHT _)))
        | (go_at_call 36; (with_reducible exact quiet_left (cHU _)))))
      go_wp2_with fail
      exact bodyPost_ret (v := .tuple #[.int .u64 0, .string ⟨#[]⟩, .bool false]) (by simp [results, Try.results29, go_sem]) rfl (rnone HS.out (below_drewN hbq _))
    · obtain ⟨x, hx⟩ : ∃ x : ByteArray, s.extract 64 (64 + m) = x := ⟨_, rfl⟩
      have hxl : x.data.toList = (s.data.toList.drop 64).take m := by rw [← hx, ext_dt, show 64 + m - 64 = m from by omega]
      have hxs : x.size ≤ 1073741824 := by rw [← hx]; exact ext_size _ _ _ _ (by omega)
      have hno := slotP_no3 s.data.toList hl
      have hyes := slotP_yes s.data.toList hl (by rw [hm]; omega) hfm
      rw [hm, ← hxl] at hno hyes
      generalize num (s.data.toList.take 8) = M at *
      generalize num ((s.data.toList.drop 12).take 8) = U at *
      have HNO := Lib.hid hno
      have HYES := Lib.hid hyes
      have HX := Lib.hid hx
      clear hno hyes hxl hm hl hfm hx
      have w1 : IntKind.i64.wrap (m : Int) = m := IntWalk.i64_in _ (by omega)
      have w2 : IntKind.i64.wrap (64 + (m : Int)) = 64 + m := IntWalk.i64_in _ (by omega)
      have w3 : (64 + (m : Int)).toNat = 64 + m := by omega
      have i1 : 64 + m ≤ s.size := by omega
      have hcv : ∀ w, (convert 9 38 (.string x)).run Try.prog w = _ := fun w => Lib.run_convert_string_bytes w 9 38 5 x Try.underlying9 Try.underlying38 Try.underlying5
      have hcv : ∀ w, (convert 9 38 (.string (s.extract 64 (64 + m)))).run Try.prog w = .ok (.slice (some ⟨w.heap.size, 0, none⟩) x.size (grownCap w x.size 0 5)) (Lib.bytesWorld w 5 x) := by rw [HX.out]; exact hcv
      have hms : x.size ≤ maxLen := by unfold maxLen; omega
      have hsum : ∀ W, Calls Try.prog 33 #[.slice (some ⟨W.heap.size, 0, none⟩) x.size (grownCap W x.size 0 5)] (Lib.bytesWorld W 5 x) fun e w' => e = .returned (.int .u64 (ui (sum x.data.toList))) ∧ Lib.bytesWorld W 5 x = w' :=
        fun W => rsum_any (some ⟨W.heap.size, 0, none⟩) x.size _ _ x.data.toList (Lib.bytesWorld W 5 x) (bw_rd W 5 x) hms
      by_cases hu : sum x.data.toList = U
      · have hne := ui_eq hu
        have HS := Lib.hid (HYES.out hu)
        clear hu HNO HYES
        generalize sum x.data.toList = V at *
        go_enter Try.func29, Try.ntmps29
        go_wp2_with fail
        refine (rheaded_z _ true _ HZ.out HF.out).mono ?_
        rintro e w' ⟨rfl, n1, rfl⟩
        have hbq : Below w.heap.size w (w.drewN n1) := below_drewN (Below.refl _ _) n1
        generalize w.drewN n1 = wq at *
        go_wp2_with fail
        go_quiet ((first
          | (go_at_call 36; (with_reducible exact quiet_left (cHM _)))
          | (go_at_call 36; (with_reducible exact quiet_left (cHT _)))
          | (go_at_call 36; (with_reducible exact quiet_left (cHU _)))))
        have hbq := below_drewN hbq nq
        generalize wq.drewN nq = wr at *
        go_wp2_with fail
        refine (hsum _).mono ?_
        rintro e w' ⟨rfl, rfl⟩
        have hbw := hbq.trans ((bw_below wr 5 x).mono hbq.size)
        clear hcv hsum
        generalize Lib.bytesWorld wr 5 x = w9 at *
        rw [HX.out]
        go_wp2_with fail
        exact bodyPost_ret (v := .tuple #[.int .u64 (ui M), .string x, .bool true]) (by simp [results, Try.results29, go_sem]) rfl (rsome HS.out hbw)
      · have hne := ui_ne hu
        have HS := Lib.hid (HNO.out hu)
        clear hu HNO HYES
        generalize sum x.data.toList = V at *
        go_enter Try.func29, Try.ntmps29
        go_wp2_with fail
        refine (rheaded_z _ true _ HZ.out HF.out).mono ?_
        rintro e w' ⟨rfl, n1, rfl⟩
        have hbq : Below w.heap.size w (w.drewN n1) := below_drewN (Below.refl _ _) n1
        generalize w.drewN n1 = wq at *
        go_wp2_with fail
        go_quiet ((first
          | (go_at_call 36; (with_reducible exact quiet_left (cHM _)))
          | (go_at_call 36; (with_reducible exact quiet_left (cHT _)))
          | (go_at_call 36; (with_reducible exact quiet_left (cHU _)))))
        have hbq := below_drewN hbq nq
        generalize wq.drewN nq = wr at *
        go_wp2_with fail
        refine (hsum _).mono ?_
        rintro e w' ⟨rfl, rfl⟩
        have hbw := hbq.trans ((bw_below wr 5 x).mono hbq.size)
        clear hcv hsum
        generalize Lib.bytesWorld wr 5 x = w9 at *
        go_wp2_with fail
        exact bodyPost_ret (v := .tuple #[.int .u64 0, .string ⟨#[]⟩, .bool false]) (by simp [results, Try.results29, go_sem]) rfl (rnone HS.out hbw)
  · have hf : fm = false := by simpa using hf
    subst hf
    have HS := Lib.hid (slotP_no2 s.data.toList hl hfm)
    clear hl hfm
    go_enter Try.func29, Try.ntmps29
    go_wp2_with fail
    refine (rheaded_z _ false _ HZ.out HF.out).mono ?_
    rintro e w' ⟨rfl, n1, rfl⟩
    have hbq : Below w.heap.size w (w.drewN n1) := below_drewN (Below.refl _ _) n1
    generalize w.drewN n1 = wq at *
    go_wp2_with fail
    exact bodyPost_ret (v := .tuple #[.int .u64 0, .string ⟨#[]⟩, .bool false]) (by simp [results, Try.results29, go_sem]) rfl (rnone HS.out hbq)
end Go.Proofs.Ytlhdomckljhfoaa
