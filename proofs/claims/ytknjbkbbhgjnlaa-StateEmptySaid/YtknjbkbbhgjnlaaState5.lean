/- State.Apply whole; the law's awake. Conditions: at most 2^40 heads; a client's count is no less than -2^63. -/
import Derived.Test.YtknjbkbbhgjnlaaState4
namespace Go.Proofs.Ytknjbkbbhgjnlaa
open Go.RowKit
set_option linter.unusedVariables false
set_option linter.unusedSimpArgs false
def AppliedAt (w w' : World) (e : Ending) (p : ST × Rp) (hv : Value) : Prop := ∃ A cap, e = .returned (.tuple #[.agg (p.1.A (.slice A p.1.l.length cap) hv), .agg p.2.A]) ∧ RowAt w' (.slice A p.1.l.length cap) p.1.l ∧ Below w.heap.size w w'
theorem apply_calls (w : World) (s : ST) (r : Rq) (A B : Option Addr) (cap m hc : Nat) (hrow : RowAt w (.slice A s.l.length cap) s.l) (hq0 : -9223372036854775808 ≤ (s.cl r.c.toNat).n) (hm : m ≤ 1099511627776) :
    Calls Try.prog 38 #[.agg (s.A (.slice A s.l.length cap) (.slice B m hc)), .agg r.A] w fun e w' => AppliedAt w w' e (s.ap m r) (.slice B m hc) := by
  by_cases hR : r.right = false
  · rw [show s.ap m r = (s, ⟨1, 0, 0⟩) by unfold ST.ap; rw [if_pos hR]]
    exact (apply_bad w s r A B s.l.length cap m hc hR).mono fun e w' ⟨h, hb⟩ => ⟨A, cap, h, hrow.below hb, hb⟩
  · obtain ⟨c, rs, rl, rk, rv⟩ := r
    have hR' : Rq.right ⟨c, rs, rl, rk, rv⟩ = true := by simpa using hR
    obtain ⟨k, hk, rfl⟩ : ∃ k : Nat, k < 4 ∧ c = k := by
      have := hR'
      simp [Rq.right] at this
      exact ⟨c.toNat, by omega, by omega⟩
    have e0 : s.ap m ⟨k, rs, rl, rk, rv⟩ = if rs = (s.cl k).q then (s, (s.cl k).r) else if rs < (s.cl k).q then (s, ⟨7, 0, 0⟩) else if 20 ≤ (s.cl k).n then (s, ⟨6, 0, 0⟩) else if 64 ≤ s.l.length then (s, ⟨10, 0, 0⟩)
        else (s.put k ⟨rs, (s.cl k).n + 1, 0, s.l.length, m + 1⟩ (s.l ++ [⟨k, rs, rl, rk, rv⟩]), ⟨0, s.l.length, m + 1⟩) := by
      unfold ST.ap
      rw [if_neg (by rw [hR']; simp)]
      rfl
    rw [e0]
    replace hq0 : -9223372036854775808 ≤ (s.cl k).n := hq0
    by_cases h1 : rs = (s.cl k).q
    · rw [if_pos h1]
      exact (apply_same w s k hk rs rl rk rv A B s.l.length cap m hc hR' h1).mono fun e w' ⟨h, hb⟩ => ⟨A, cap, h, hrow.below hb, hb⟩
    rw [if_neg h1]
    by_cases h2 : rs < (s.cl k).q
    · rw [if_pos h2]
      exact (apply_old w s k hk rs rl rk rv A B s.l.length cap m hc hR' h1 h2).mono fun e w' ⟨h, hb⟩ => ⟨A, cap, h, hrow.below hb, hb⟩
    rw [if_neg h2]
    by_cases h3 : 20 ≤ (s.cl k).n
    · rw [if_pos h3]
      exact (apply_quota w s k hk rs rl rk rv A B s.l.length cap m hc hR' h1 h2 h3).mono fun e w' ⟨h, hb⟩ => ⟨A, cap, h, hrow.below hb, hb⟩
    rw [if_neg h3]
    by_cases h4 : 64 ≤ s.l.length
    · rw [if_pos h4]
      exact (apply_full w s k hk rs rl rk rv A B s.l.length cap m hc hR' h1 h2 h3 h4).mono fun e w' ⟨h, hb⟩ => ⟨A, cap, h, hrow.below hb, hb⟩
    rw [if_neg h4]
    refine (apply_ok w s k hk rs rl rk rv A B s.l.length cap m hc hR' h1 h2 h3 hq0 (by omega) rfl hrow hm).mono fun e w' ⟨v, h, hr, hb⟩ => ?_
    obtain ⟨A', c', rfl, h5⟩ := hr
    exact ⟨A', c', h, ⟨A', c', rfl, h5⟩, hb⟩
end Go.Proofs.Ytknjbkbbhgjnlaa
