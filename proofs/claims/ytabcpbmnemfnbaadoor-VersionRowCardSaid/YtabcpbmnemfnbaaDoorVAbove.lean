/-
  Plain facts for VersionAbove: where a number can be bumped there is a next release, not above; bumped at a greater number it is not below. Conditions: none.
-/
import Derived.Test.YtabcpbmnemfnbaaDoorVZone
namespace Go.Proofs.YtabcpbmnemfnbaaDoor
open Go.RowKit

theorem rel_eta {u : Ver} (h1 : u.pre = []) (h2 : u.build = []) : u = verS u.maj u.min u.pat ⟨#[]⟩ ⟨#[]⟩ := by
  obtain ⟨a, b, c, p, q⟩ := u
  dsimp only at h1 h2
  subst h1 h2
  rfl
theorem bump_num {v u : Ver} {k : Int} (h : bumpV v k = some u) (hv : mayV v = true) : numK v + 1 ≤ numK u := by
  obtain ⟨⟨a0, a1⟩, ⟨b0, b1⟩, ⟨c0, c1⟩⟩ := may_parts hv
  obtain ⟨_, _, _, _, hk, e0, e1, e2⟩ := bump_some h
  unfold numK at *
  rcases hk with rfl | rfl | rfl
  · have := e0 rfl; omega
  · have := e1 rfl; omega
  · have := e2 rfl; omega
theorem above_next {v u : Ver} {r k : Int} (hv : Fam v r) (h : bumpV v k = some u) :
    ∃ n0 n1 n2 : Int, nextV v = some (verS n0 n1 n2 ⟨#[]⟩ ⟨#[]⟩) ∧ Fam (verS n0 n1 n2 ⟨#[]⟩ ⟨#[]⟩) 10 ∧ keyV v r < keyV u 10 ∧ keyV (verS n0 n1 n2 ⟨#[]⟩ ⟨#[]⟩) 10 ≤ keyV u 10 := by
  obtain ⟨_, _, _, r0, r1⟩ := fam_bd hv
  have hb := bump_num h hv.1
  cases hn : nextV v with
  | none =>
    obtain ⟨_, h9⟩ := next_none hv hn
    obtain ⟨_, _, _, fu, _⟩ := bump_some h
    obtain ⟨⟨a0, a1⟩, ⟨b0, b1⟩, ⟨c0, c1⟩, _⟩ := fam_bd fu
    unfold numK at hb h9
    omega
  | some n =>
    obtain ⟨h1, h2, fn, e1, e2⟩ := next_some hv hn
    have he := rel_eta h1 h2
    refine ⟨n.maj, n.min, n.pat, by rw [← he], by rw [← he]; exact fn, ?_, ?_⟩
    · rw [key_num, key_num]; omega
    · rw [← he, key_num, key_num]
      by_cases hr : r = 10
      · have := e1 hr; omega
      · have := e2 hr; omega
theorem above_less {v u : Ver} {r : Int} {p : Nat} (hv : Fam v r) (h : bumpV v p = some u) (hp : p < 3) :
    ∃ (x0 x1 x2 : Int) (x3 x4 : ByteArray) (xb : Bool), bumpVal (bumpV v ((p : Int) - 1)) = .tuple #[.agg #[.int .i64 x0, .int .i64 x1, .int .i64 x2, .string x3, .string x4], .bool xb] ∧
      (xb = true → x3 = ⟨#[]⟩ ∧ x4 = ⟨#[]⟩ ∧ Fam (verS x0 x1 x2 ⟨#[]⟩ ⟨#[]⟩) 10 ∧ keyV u 10 ≤ keyV (verS x0 x1 x2 ⟨#[]⟩ ⟨#[]⟩) 10) := by
  obtain ⟨⟨a0, a1⟩, ⟨b0, b1⟩, ⟨c0, c1⟩, _, _⟩ := fam_bd hv
  cases hc : bumpV v ((p : Int) - 1) with
  | none => exact ⟨0, 0, 0, ⟨#[]⟩, ⟨#[]⟩, false, rfl, fun e => by cases e⟩
  | some c =>
    obtain ⟨_, h1, h2, fc, hk, e0, e1, e2⟩ := bump_some hc
    obtain ⟨_, _, _, fu, _, g0, g1, g2⟩ := bump_some h
    have he := rel_eta h1 h2
    refine ⟨c.maj, c.min, c.pat, ⟨#[]⟩, ⟨#[]⟩, true, ?_, fun _ => ⟨rfl, rfl, by rw [← he]; exact fc, ?_⟩⟩
    · unfold bumpVal
      dsimp only
      rw [h1, h2]
    · rw [← he, key_num, key_num]
      unfold numK at *
      have hp3 : p = 0 ∨ p = 1 ∨ p = 2 := by omega
      rcases hp3 with rfl | rfl | rfl
      · exfalso; omega
      · have := g1 rfl; have := e0 rfl; omega
      · have := g2 rfl; have := e1 rfl; omega
end Go.Proofs.YtabcpbmnemfnbaaDoor
